/- The chips: faults put in. -/
import Derived.Test.YtckhkagkpldoiaaDrE
import Derived.WalkKit
import Derived.Sort.CutIn
import Derived.IntWalk
namespace Go.Proofs.Ytckhkagkpldoiaa.E
open Go Go.RowKit Go.Shelf
attribute [local go_sem] Oper.semAt_some
set_option linter.unusedVariables false
set_option linter.unusedSimpArgs false

theorem dLook_len {D : Dr} (h : DrOk D) (i : Int) : (dLook_0 D i).length = 72 := by
  unfold dLook_0
  cases gat_4 D.g0 D.g1 D.g2 D.g3 D.g4 i != 0
  · simp only [cond_false, ovF_len, h.cl]
  · exact List.length_replicate
theorem dRead_len {D : Dr} (h : DrOk D) (i : Int) : (dRead_0 D i).length = 72 := by
  unfold dRead_0
  cases gat_4 D.g0 D.g1 D.g2 D.g3 D.g4 i != 0
  · cases dwent_1 D
    · exact dLook_len (dwD_ok h) _
    · exact List.length_replicate
  · exact List.length_replicate
def frF (D : Dr) (f : Fa) : Bool := fright f.x0 f.x1 f.x2 f.x3 f.x4 f.x5 f.x6 f.x7 D.g0 D.g1 D.g2 D.g3 D.g4 D.mode
def giF (D : Dr) (f : Fa) : Int := gindex_0 D.g0 D.g1 D.g2 D.g3 D.g4 f.x1 f.x2 f.x3 f.x4
def injD (D : Dr) (f : Fa) : Dr := bif !frF D f then D else bif f.x0 == 1 then { D with cells := upI D.cells (giF D f) (flipI (D.cells (giF D f)) f.x6) } else bif flasts f.x0 f.x1 f.x2 f.x3 f.x4 f.x5 f.x6 f.x7 then { D with lasts := dadd_1 D.lasts f } else { D with coming := dadd_1 D.coming f }
theorem dadd_len {xs : List Fa} (f : Fa) (h : xs.length ≤ 256) : (dadd_1 xs f).length ≤ 256 := by
  unfold dadd_1
  cases hb : decide (256 ≤ (xs.length : Int))
  · have := of_decide_eq_false hb
    simp only [cond_false, List.length_append, List.length_singleton]
    omega
  · exact h
theorem dadd_all {xs : List Fa} {f : Fa} {p : Fa → Prop} (h : ∀ x ∈ xs, p x) (hf : p f) : ∀ x ∈ dadd_1 xs f, p x := by
  unfold dadd_1
  cases decide (256 ≤ (xs.length : Int))
  · simp only [cond_false, List.mem_append, List.mem_singleton]
    rintro x (hx | rfl)
    · exact h x hx
    · exact hf
  · exact h
theorem injD_ok {D : Dr} {f : Fa} (h : DrOk D) (hf : FaOk f) : DrOk (injD D f) := by
  unfold injD
  cases frF D f
  · exact h
  cases f.x0 == 1
  · cases flasts f.x0 f.x1 f.x2 f.x3 f.x4 f.x5 f.x6 f.x7
    · exact ⟨h.cl, h.l1, dadd_len f h.l2, h.f1, dadd_all h.f2 hf⟩
    · exact ⟨h.cl, dadd_len f h.l1, h.l2, dadd_all h.f1 hf, h.f2⟩
  · exact ⟨upI_len h.cl _ (by rw [flipI_length]; exact h.cl _), h.l1, h.l2, h.f1, h.f2⟩
attribute [local irreducible] fapply ovF gat_0 gat_1 gat_2 gat_3 gat_4 gindex_0 gindex_1 dadd_0 dadd_1 fright flipI flasts
def dInject_0 (D : Dr) (f : Fa) : Int := (bif !(fright f.x0 f.x1 f.x2 f.x3 f.x4 f.x5 f.x6 f.x7 D.g0 D.g1 D.g2 D.g3 D.g4 D.mode) then 10 else (bif f.x0 == 1 then (gindex_1 D.g0 D.g1 D.g2 D.g3 D.g4 f.x1 f.x2 f.x3 f.x4) else (bif flasts f.x0 f.x1 f.x2 f.x3 f.x4 f.x5 f.x6 f.x7 then (dadd_0 D.lasts) else (dadd_0 D.coming))))
def dInject_1 (g : Nat) (D : Dr) (f : Fa) : Objs → Prop := (bif !(fright f.x0 f.x1 f.x2 f.x3 f.x4 f.x5 f.x6 f.x7 D.g0 D.g1 D.g2 D.g3 D.g4 D.mode) then PkE (DramS g { D with cells := (D.cells), lasts := (D.lasts), coming := (D.coming) }) else (bif f.x0 == 1 then PkE (DramS g { D with cells := (upI D.cells (gindex_0 D.g0 D.g1 D.g2 D.g3 D.g4 f.x1 f.x2 f.x3 f.x4) (flipI (D.cells (gindex_0 D.g0 D.g1 D.g2 D.g3 D.g4 f.x1 f.x2 f.x3 f.x4)) f.x6)), lasts := (D.lasts), coming := (D.coming) }) else (bif flasts f.x0 f.x1 f.x2 f.x3 f.x4 f.x5 f.x6 f.x7 then PkE (DramS g { D with cells := (D.cells), lasts := ((dadd_1 D.lasts f)), coming := (D.coming) }) else PkE (DramS g { D with cells := (D.cells), lasts := (D.lasts), coming := ((dadd_1 D.coming f)) }))))
set_option maxRecDepth 100000 in
set_option maxHeartbeats 1000000 in
theorem dInject (g : Nat) (D : Dr) (f : Fa) (hD : DrOk D) (hf : FaOk f) : Con Try.prog 35 #[.pointer (some ⟨g, 0, none⟩), .agg #[.int .i64 f.x0, .int .i64 f.x1, .int .i64 f.x2, .int .i64 f.x3, .int .i64 f.x4, .int .i64 f.x5, .int .i64 f.x6, .int .i64 f.x7]] [.p (PkE (DramS g D))] [0] (fun _ => [.p (PkE (DramS g (injD D f)))]) (fun _ => .int .i64 (dInject_0 D f)) := by
 refine Con.of (enters_of Try.func35 (by kernel_rfl) rfl) fun w cs HS HH OW => ?_
 refine (callsIn_wide (n := 6)).1 ?_
 refine callsIn_of_wp_marks Try.func35 rfl trivial ?_ rfl
 simp only [Try.ntmps35, eF, Nat.reduceAdd, Nat.reduceSub]
 gi_upto_region 0 with fail
 refine rg (fun q1 => [.m (bx 1),
  .v (.int .i64 0)]) (fun q1 L => L ++ [ob ((q1 0).blk 0) #[.int .i64 f.x0, .int .i64 f.x1, .int .i64 f.x2, .int .i64 f.x3, .int .i64 f.x4, .int .i64 f.x5, .int .i64 f.x6, .int .i64 f.x7] 25]) OW ?_
 clear OW; intro q1 _ Wq1 OW; simp only [↓pc, ↓pn, vE, Hint.val, Act.put, eL]
 gi_upto_region 2 with fail
 obtain ⟨L4, ⟨gm, v1, v2, rfl⟩, OW0⟩ := OW.out.openE (S := DramS g D) 0
 replace OW := Lib.hid (OwnE.cast (L' := [.c [], ob ((q1 0).blk 0) #[.int .i64 f.x0, .int .i64 f.x1, .int .i64 f.x2, .int .i64 f.x3, .int .i64 f.x4, .int .i64 f.x5, .int .i64 f.x6, .int .i64 f.x7] 25, ob g #[.int .i64 D.g0, .int .i64 D.g1, .int .i64 D.g2, .int .i64 D.g3, .int .i64 D.g4, .int .i64 D.mode, .map (some gm), v1, v2] 125, mpRw D.cells gm, slFa v1 D.lasts, slFa v2 D.coming]) OW0 (by kernel_rfl)); clear OW0
 refine rg (fun q2 => [.m (ls 1 ([.int .i64 f.x0, .int .i64 f.x1, .int .i64 f.x2, .int .i64 f.x3, .int .i64 f.x4, .int .i64 f.x5, .int .i64 f.x6, .int .i64 f.x7])),
  .v (.pointer (some ⟨g, 0, none⟩)),
  .v (.pointer (some ⟨g, 0, none⟩)),
  .v (.pointer (some ⟨g, 0, none⟩)),
  .m (ls 2 ([.int .i64 D.g0, .int .i64 D.g1, .int .i64 D.g2, .int .i64 D.g3, .int .i64 D.g4])),
  .v (.pointer (some ⟨g, 0, none⟩)),
  .v (.pointer (some ⟨g, 0, none⟩)),
  .v (.pointer (some ⟨g, 5, none⟩)),
  .m (ld 2 (.int .i64 D.mode)),
  .c [] [] (conB (enters_of Try.func17 (by kernel_rfl) rfl) fun w' => (fright_any f.x0 f.x1 f.x2 f.x3 f.x4 f.x5 f.x6 f.x7 D.g0 D.g1 D.g2 D.g3 D.g4 D.mode _)),
  .v (.bool (!(fright f.x0 f.x1 f.x2 f.x3 f.x4 f.x5 f.x6 f.x7 D.g0 D.g1 D.g2 D.g3 D.g4 D.mode))),
  .v (.bool (!(fright f.x0 f.x1 f.x2 f.x3 f.x4 f.x5 f.x6 f.x7 D.g0 D.g1 D.g2 D.g3 D.g4 D.mode)))]) (fun _ L => L) OW ?_
 clear OW; intro q2 _ Wq2 OW; simp only [↓pc, ↓pn, vE, Hint.val, Act.put, eL]
 cases hB3 : (!(fright f.x0 f.x1 f.x2 f.x3 f.x4 f.x5 f.x6 f.x7 D.g0 D.g1 D.g2 D.g3 D.g4 D.mode))
 case true =>
  gi_upto_region 3 with fail
  refine rg (fun q4 => [.v (.int .i64 10)]) (fun _ L => L) OW ?_
  clear OW; intro q4 _ Wq4 OW; simp only [↓pc, ↓pn, vE, Hint.val, Act.put, eL]
  replace OW := Lib.hid (OwnE.re (L' := [.c [], ob ((q1 0).blk 0) #[.int .i64 f.x0, .int .i64 f.x1, .int .i64 f.x2, .int .i64 f.x3, .int .i64 f.x4, .int .i64 f.x5, .int .i64 f.x6, .int .i64 f.x7] 25, .p (PkE (DramS g { D with cells := (D.cells), lasts := (D.lasts), coming := (D.coming) }))]) OW.out [[0], [1], [2, 3, 4, 5]] (Ns := [[.c []], [ob ((q1 0).blk 0) #[.int .i64 f.x0, .int .i64 f.x1, .int .i64 f.x2, .int .i64 f.x3, .int .i64 f.x4, .int .i64 f.x5, .int .i64 f.x6, .int .i64 f.x7] 25], [ob g #[.int .i64 D.g0, .int .i64 D.g1, .int .i64 D.g2, .int .i64 D.g3, .int .i64 D.g4, .int .i64 D.mode, .map (some gm), v1, v2] 125, mpRw D.cells gm, slFa v1 D.lasts, slFa v2 D.coming]]) (by kernel_rfl) ⟨satG_one _, satG_one _, PkE.of (⟨_, _, _, rfl⟩), trivial⟩)
  gi_wp2
  exact leafE HS HH OW [.t (.int .i64 10)] Env.zero [2] [] (by (try simp only [dInject_0, dInject_1]); (repeat (first | rw [hB3] | rw [cond_true] | rw [cond_false])); first | rfl | kernel_rfl) (by kernel_rfl) (by simp only [injD, frF, giF]; (try simp only [dInject_0, dInject_1]); (repeat (first | rw [hB3] | rw [cond_true] | rw [cond_false])); kernel_rfl)
 gi_upto_region 4 with fail
 refine rg (fun q5 => [.v (.pointer (some ⟨(q1 0).blk 0, 0, none⟩)),
  .m (ld 1 (.int .i64 f.x0)),
  .v (.bool (f.x0 == 1)),
  .v (.bool (f.x0 == 1))]) (fun _ L => L) OW ?_
 clear OW; intro q5 _ Wq5 OW; simp only [↓pc, ↓pn, vE, Hint.val, Act.put, eL]
 cases hB6 : (f.x0 == 1)
 case true =>
  have dhB6 := Lib.hid (eq_of_beq hB6)
  gi_upto_region 5 with fail
  refine rg (fun q7 => [.v (.pointer (some ⟨g, 0, none⟩)),
   .v (.pointer (some ⟨g, 0, none⟩)),
   .v (.pointer (some ⟨g, 0, none⟩)),
   .m (ls 2 ([.int .i64 D.g0, .int .i64 D.g1, .int .i64 D.g2, .int .i64 D.g3, .int .i64 D.g4])),
   .v (.pointer (some ⟨(q1 0).blk 0, 1, none⟩)),
   .m (ls 1 ([.int .i64 f.x1, .int .i64 f.x2, .int .i64 f.x3, .int .i64 f.x4])),
   .c [] [] (gindex D.g0 D.g1 D.g2 D.g3 D.g4 f.x1 f.x2 f.x3 f.x4),
   .v (.tuple #[.int .i64 (gindex_0 D.g0 D.g1 D.g2 D.g3 D.g4 f.x1 f.x2 f.x3 f.x4), .int .i64 (gindex_1 D.g0 D.g1 D.g2 D.g3 D.g4 f.x1 f.x2 f.x3 f.x4)]),
   .v (.int .i64 (gindex_0 D.g0 D.g1 D.g2 D.g3 D.g4 f.x1 f.x2 f.x3 f.x4)),
   .v (.int .i64 (gindex_1 D.g0 D.g1 D.g2 D.g3 D.g4 f.x1 f.x2 f.x3 f.x4)),
   .v (.int .i64 (gindex_0 D.g0 D.g1 D.g2 D.g3 D.g4 f.x1 f.x2 f.x3 f.x4)),
   .v (.int .i64 (gindex_1 D.g0 D.g1 D.g2 D.g3 D.g4 f.x1 f.x2 f.x3 f.x4))]) (fun _ L => L) OW ?_
  clear OW; intro q7 _ Wq7 OW; simp only [↓pc, ↓pn, vE, Hint.val, Act.put, eL]
  gi_upto_region 6 with fail
  refine rg (fun q8 => [.v (.pointer (some ⟨g, 0, none⟩)),
   .v (.pointer (some ⟨g, 0, none⟩)),
   .v (.pointer (some ⟨g, 6, none⟩)),
   .m (ld 2 (.map (some gm))),
   .v (.int .i64 (gindex_0 D.g0 D.g1 D.g2 D.g3 D.g4 f.x1 f.x2 f.x3 f.x4)),
   .v (.pointer (some ⟨g, 0, none⟩)),
   .v (.pointer (some ⟨g, 0, none⟩)),
   .v (.pointer (some ⟨g, 6, none⟩)),
   .m (ld 2 (.map (some gm))),
   .v (.int .i64 (gindex_0 D.g0 D.g1 D.g2 D.g3 D.g4 f.x1 f.x2 f.x3 f.x4)),
   .m (mg 3 (mpRw D.cells gm) gm (gindex_0 D.g0 D.g1 D.g2 D.g3 D.g4 f.x1 f.x2 f.x3 f.x4) (fun _ h => h)),
   .v (.pointer (some ⟨(q1 0).blk 0, 6, none⟩)),
   .m (ld 1 (.int .i64 f.x6)),
   .c [] [] (show Con _ 52 #[.agg (rB 72 (D.cells (gindex_0 D.g0 D.g1 D.g2 D.g3 D.g4 f.x1 f.x2 f.x3 f.x4))).toArray, .int .i64 f.x6] _ _ _ fun _ => .agg (rB 72 (flipI (D.cells (gindex_0 D.g0 D.g1 D.g2 D.g3 D.g4 f.x1 f.x2 f.x3 f.x4)) f.x6)).toArray from conB (enters_of Try.func52 (by kernel_rfl) rfl) fun w' => (by rw [rB_raw (n := 72) (xs := (D.cells (gindex_0 D.g0 D.g1 D.g2 D.g3 D.g4 f.x1 f.x2 f.x3 f.x4))) (show ((D.cells (gindex_0 D.g0 D.g1 D.g2 D.g3 D.g4 f.x1 f.x2 f.x3 f.x4))).length = 72 by first | rfl | (simp only [List.length_set, List.length_append, List.length_replicate, List.length_cons, List.length_nil, List.length_map, List.length_range, List.length_take, List.length_drop, hD.cl, flipI_length]; done) | (simp only [List.length_set, List.length_append, List.length_replicate, List.length_cons, List.length_nil, List.length_map, List.length_range, List.length_take, List.length_drop, hD.cl, flipI_length]; omega)), rB_raw (n := 72) (xs := flipI (D.cells (gindex_0 D.g0 D.g1 D.g2 D.g3 D.g4 f.x1 f.x2 f.x3 f.x4)) f.x6) (show (flipI (D.cells (gindex_0 D.g0 D.g1 D.g2 D.g3 D.g4 f.x1 f.x2 f.x3 f.x4)) f.x6).length = 72 by first | rfl | (simp only [List.length_set, List.length_append, List.length_replicate, List.length_cons, List.length_nil, List.length_map, List.length_range, List.length_take, List.length_drop, hD.cl, flipI_length]; done) | (simp only [List.length_set, List.length_append, List.length_replicate, List.length_cons, List.length_nil, List.length_map, List.length_range, List.length_take, List.length_drop, hD.cl, flipI_length]; omega))]; exact rflip_any (D.cells (gindex_0 D.g0 D.g1 D.g2 D.g3 D.g4 f.x1 f.x2 f.x3 f.x4)) (by first | rfl | (simp only [List.length_set, List.length_append, List.length_replicate, List.length_cons, List.length_nil, List.length_map, List.length_range, List.length_take, List.length_drop, hD.cl, flipI_length]; done) | (simp only [List.length_set, List.length_append, List.length_replicate, List.length_cons, List.length_nil, List.length_map, List.length_range, List.length_take, List.length_drop, hD.cl, flipI_length]; omega)) f.x6 hf.1 hf.2 _)),
   .m (mu 3 gm (gindex_0 D.g0 D.g1 D.g2 D.g3 D.g4 f.x1 f.x2 f.x3 f.x4) mRw zRw D.cells (flipI (D.cells (gindex_0 D.g0 D.g1 D.g2 D.g3 D.g4 f.x1 f.x2 f.x3 f.x4)) f.x6))]) (fun q8 L => L.set 3 (mpRw (upI D.cells (gindex_0 D.g0 D.g1 D.g2 D.g3 D.g4 f.x1 f.x2 f.x3 f.x4) (flipI (D.cells (gindex_0 D.g0 D.g1 D.g2 D.g3 D.g4 f.x1 f.x2 f.x3 f.x4)) f.x6)) gm)) OW ?_
  clear OW; intro q8 _ Wq8 OW; simp only [↓pc, ↓pn, vE, Hint.val, Act.put, eL]
  gi_upto_region 7 with fail
  refine rg (fun q9 => [.v (.int .i64 (gindex_1 D.g0 D.g1 D.g2 D.g3 D.g4 f.x1 f.x2 f.x3 f.x4)),
   .v (.int .i64 (gindex_1 D.g0 D.g1 D.g2 D.g3 D.g4 f.x1 f.x2 f.x3 f.x4))]) (fun _ L => L) OW ?_
  clear OW; intro q9 _ Wq9 OW; simp only [↓pc, ↓pn, vE, Hint.val, Act.put, eL]
  replace OW := Lib.hid (OwnE.re (L' := [.c [], ob ((q1 0).blk 0) #[.int .i64 f.x0, .int .i64 f.x1, .int .i64 f.x2, .int .i64 f.x3, .int .i64 f.x4, .int .i64 f.x5, .int .i64 f.x6, .int .i64 f.x7] 25, .p (PkE (DramS g { D with cells := (upI D.cells (gindex_0 D.g0 D.g1 D.g2 D.g3 D.g4 f.x1 f.x2 f.x3 f.x4) (flipI (D.cells (gindex_0 D.g0 D.g1 D.g2 D.g3 D.g4 f.x1 f.x2 f.x3 f.x4)) f.x6)), lasts := (D.lasts), coming := (D.coming) }))]) OW.out [[0], [1], [2, 3, 4, 5]] (Ns := [[.c []], [ob ((q1 0).blk 0) #[.int .i64 f.x0, .int .i64 f.x1, .int .i64 f.x2, .int .i64 f.x3, .int .i64 f.x4, .int .i64 f.x5, .int .i64 f.x6, .int .i64 f.x7] 25], [ob g #[.int .i64 D.g0, .int .i64 D.g1, .int .i64 D.g2, .int .i64 D.g3, .int .i64 D.g4, .int .i64 D.mode, .map (some gm), v1, v2] 125, mpRw (upI D.cells (gindex_0 D.g0 D.g1 D.g2 D.g3 D.g4 f.x1 f.x2 f.x3 f.x4) (flipI (D.cells (gindex_0 D.g0 D.g1 D.g2 D.g3 D.g4 f.x1 f.x2 f.x3 f.x4)) f.x6)) gm, slFa v1 D.lasts, slFa v2 D.coming]]) (by kernel_rfl) ⟨satG_one _, satG_one _, PkE.of (⟨_, _, _, rfl⟩), trivial⟩)
  gi_wp2
  exact leafE HS HH OW [.t (.int .i64 (gindex_1 D.g0 D.g1 D.g2 D.g3 D.g4 f.x1 f.x2 f.x3 f.x4))] Env.zero [2] [] (by (try simp only [dInject_0, dInject_1]); (repeat (first | rw [hB3] | rw [hB6] | rw [cond_true] | rw [cond_false])); first | rfl | kernel_rfl) (by kernel_rfl) (by simp only [injD, frF, giF]; (try simp only [dInject_0, dInject_1]); (repeat (first | rw [hB3] | rw [hB6] | rw [cond_true] | rw [cond_false])); kernel_rfl)
 have dhB6 := ne_of_beq_false hB6
 gi_upto_region 8 with fail
 refine rg (fun q10 => [.m (ls 1 ([.int .i64 f.x0, .int .i64 f.x1, .int .i64 f.x2, .int .i64 f.x3, .int .i64 f.x4, .int .i64 f.x5, .int .i64 f.x6, .int .i64 f.x7])),
  .c [] [] (conB (enters_of Try.func19 (by kernel_rfl) rfl) fun w' => (flasts_any f.x0 f.x1 f.x2 f.x3 f.x4 f.x5 f.x6 f.x7 _)),
  .v (.bool (flasts f.x0 f.x1 f.x2 f.x3 f.x4 f.x5 f.x6 f.x7))]) (fun _ L => L) OW ?_
 clear OW; intro q10 _ Wq10 OW; simp only [↓pc, ↓pn, vE, Hint.val, Act.put, eL]
 cases hB11 : (flasts f.x0 f.x1 f.x2 f.x3 f.x4 f.x5 f.x6 f.x7)
 case true =>
  gi_upto_region 9 with fail
  refine rg (fun q12 => [.v (.pointer (some ⟨g, 0, none⟩)),
   .v (.pointer (some ⟨g, 0, none⟩)),
   .v (.pointer (some ⟨g, 0, none⟩)),
   .v (.pointer (some ⟨g, 7, none⟩)),
   .m (ld 2 (v1)),
   .m (ls 1 ([.int .i64 f.x0, .int .i64 f.x1, .int .i64 f.x2, .int .i64 f.x3, .int .i64 f.x4, .int .i64 f.x5, .int .i64 f.x6, .int .i64 f.x7])),
   .c [4] [4] (dadd v1 D.lasts f),
   .v (.tuple #[((q12 6).val 0), .int .i64 (dadd_0 D.lasts)]),
   .v (((q12 6).val 0)),
   .v (.int .i64 (dadd_0 D.lasts)),
   .v (.pointer (some ⟨g, 0, none⟩)),
   .v (.pointer (some ⟨g, 7, none⟩)),
   .m (stV 2 4 (slFa ((q12 6).val 0) (dadd_1 D.lasts f)) ((q12 6).val 0) fun bs h => SlE.one ((fun _ h => h) bs h)),
   .v (.int .i64 (dadd_0 D.lasts))]) (fun q12 L => (L.set 2 (ob g #[.int .i64 D.g0, .int .i64 D.g1, .int .i64 D.g2, .int .i64 D.g3, .int .i64 D.g4, .int .i64 D.mode, .map (some gm), ((q12 6).val 0), v2] 125)).set 4 (slFa ((q12 6).val 0) (dadd_1 D.lasts f))) OW ?_
  clear OW; intro q12 _ Wq12 OW; simp only [↓pc, ↓pn, vE, Hint.val, Act.put, eL]
  gi_upto_region 10 with fail
  refine rg (fun q13 => [.v (.int .i64 (dadd_0 D.lasts)),
   .v (.int .i64 (dadd_0 D.lasts))]) (fun _ L => L) OW ?_
  clear OW; intro q13 _ Wq13 OW; simp only [↓pc, ↓pn, vE, Hint.val, Act.put, eL]
  replace OW := Lib.hid (OwnE.re (L' := [.c [], ob ((q1 0).blk 0) #[.int .i64 f.x0, .int .i64 f.x1, .int .i64 f.x2, .int .i64 f.x3, .int .i64 f.x4, .int .i64 f.x5, .int .i64 f.x6, .int .i64 f.x7] 25, .p (PkE (DramS g { D with cells := (D.cells), lasts := ((dadd_1 D.lasts f)), coming := (D.coming) }))]) OW.out [[0], [1], [2, 3, 4, 5]] (Ns := [[.c []], [ob ((q1 0).blk 0) #[.int .i64 f.x0, .int .i64 f.x1, .int .i64 f.x2, .int .i64 f.x3, .int .i64 f.x4, .int .i64 f.x5, .int .i64 f.x6, .int .i64 f.x7] 25], [ob g #[.int .i64 D.g0, .int .i64 D.g1, .int .i64 D.g2, .int .i64 D.g3, .int .i64 D.g4, .int .i64 D.mode, .map (some gm), ((q12 6).val 0), v2] 125, mpRw D.cells gm, slFa ((q12 6).val 0) (dadd_1 D.lasts f), slFa v2 D.coming]]) (by kernel_rfl) ⟨satG_one _, satG_one _, PkE.of (⟨_, _, _, rfl⟩), trivial⟩)
  gi_wp2
  exact leafE HS HH OW [.t (.int .i64 (dadd_0 D.lasts))] Env.zero [2] [] (by (try simp only [dInject_0, dInject_1]); (repeat (first | rw [hB3] | rw [hB6] | rw [hB11] | rw [cond_true] | rw [cond_false])); first | rfl | kernel_rfl) (by kernel_rfl) (by simp only [injD, frF, giF]; (try simp only [dInject_0, dInject_1]); (repeat (first | rw [hB3] | rw [hB6] | rw [hB11] | rw [cond_true] | rw [cond_false])); kernel_rfl)
 gi_upto_region 1 with fail
 refine rg (fun q14 => [.v (.pointer (some ⟨g, 0, none⟩)),
  .v (.pointer (some ⟨g, 0, none⟩)),
  .v (.pointer (some ⟨g, 0, none⟩)),
  .v (.pointer (some ⟨g, 8, none⟩)),
  .m (ld 2 (v2)),
  .m (ls 1 ([.int .i64 f.x0, .int .i64 f.x1, .int .i64 f.x2, .int .i64 f.x3, .int .i64 f.x4, .int .i64 f.x5, .int .i64 f.x6, .int .i64 f.x7])),
  .c [5] [5] (dadd v2 D.coming f),
  .v (.tuple #[((q14 6).val 0), .int .i64 (dadd_0 D.coming)]),
  .v (((q14 6).val 0)),
  .v (.int .i64 (dadd_0 D.coming)),
  .v (.pointer (some ⟨g, 0, none⟩)),
  .v (.pointer (some ⟨g, 8, none⟩)),
  .m (stV 2 5 (slFa ((q14 6).val 0) (dadd_1 D.coming f)) ((q14 6).val 0) fun bs h => SlE.one ((fun _ h => h) bs h)),
  .v (.int .i64 (dadd_0 D.coming))]) (fun q14 L => (L.set 2 (ob g #[.int .i64 D.g0, .int .i64 D.g1, .int .i64 D.g2, .int .i64 D.g3, .int .i64 D.g4, .int .i64 D.mode, .map (some gm), v1, ((q14 6).val 0)] 125)).set 5 (slFa ((q14 6).val 0) (dadd_1 D.coming f))) OW ?_
 clear OW; intro q14 _ Wq14 OW; simp only [↓pc, ↓pn, vE, Hint.val, Act.put, eL]
 gi_upto_region 10 with fail
 refine rg (fun q15 => [.v (.int .i64 (dadd_0 D.coming)),
  .v (.int .i64 (dadd_0 D.coming))]) (fun _ L => L) OW ?_
 clear OW; intro q15 _ Wq15 OW; simp only [↓pc, ↓pn, vE, Hint.val, Act.put, eL]
 replace OW := Lib.hid (OwnE.re (L' := [.c [], ob ((q1 0).blk 0) #[.int .i64 f.x0, .int .i64 f.x1, .int .i64 f.x2, .int .i64 f.x3, .int .i64 f.x4, .int .i64 f.x5, .int .i64 f.x6, .int .i64 f.x7] 25, .p (PkE (DramS g { D with cells := (D.cells), lasts := (D.lasts), coming := ((dadd_1 D.coming f)) }))]) OW.out [[0], [1], [2, 3, 4, 5]] (Ns := [[.c []], [ob ((q1 0).blk 0) #[.int .i64 f.x0, .int .i64 f.x1, .int .i64 f.x2, .int .i64 f.x3, .int .i64 f.x4, .int .i64 f.x5, .int .i64 f.x6, .int .i64 f.x7] 25], [ob g #[.int .i64 D.g0, .int .i64 D.g1, .int .i64 D.g2, .int .i64 D.g3, .int .i64 D.g4, .int .i64 D.mode, .map (some gm), v1, ((q14 6).val 0)] 125, mpRw D.cells gm, slFa v1 D.lasts, slFa ((q14 6).val 0) (dadd_1 D.coming f)]]) (by kernel_rfl) ⟨satG_one _, satG_one _, PkE.of (⟨_, _, _, rfl⟩), trivial⟩)
 gi_wp2
 exact leafE HS HH OW [.t (.int .i64 (dadd_0 D.coming))] Env.zero [2] [] (by (try simp only [dInject_0, dInject_1]); (repeat (first | rw [hB3] | rw [hB6] | rw [hB11] | rw [cond_true] | rw [cond_false])); first | rfl | kernel_rfl) (by kernel_rfl) (by simp only [injD, frF, giF]; (try simp only [dInject_0, dInject_1]); (repeat (first | rw [hB3] | rw [hB6] | rw [hB11] | rw [cond_true] | rw [cond_false])); kernel_rfl)
end Go.Proofs.Ytckhkagkpldoiaa.E
