/- The chips: what lies in memory, and what is done to it. -/
import Derived.Test.YtckhkagkpldoiaaDrA
import Derived.Test.YtckhkagkpldoiaaDrG
import Derived.Test.YtckhkagkpldoiaaFlX
import Derived.WalkKit
import Derived.Sort.CutIn
import Derived.IntWalk
namespace Go.Proofs.Ytckhkagkpldoiaa.E
open Go Go.RowKit Go.Shelf
attribute [local go_sem] Oper.semAt_some
set_option linter.unusedVariables false
set_option linter.unusedSimpArgs false


structure Dr where
  g0 : Int
  g1 : Int
  g2 : Int
  g3 : Int
  g4 : Int
  mode : Int
  cells : Int → List UInt8
  lasts : List Fa
  coming : List Fa
def zRw : List UInt8 := List.replicate 72 0
def mRw (r : List UInt8) : Value := .agg (rB 72 r).toArray
abbrev mpRw (f : Int → List UInt8) (g : Nat) : Ent := .p (MpE mRw zRw f g)
/-- The chips at a place. -/
def DramS (g : Nat) (D : Dr) (L : Ents) : Prop := ∃ (gm : Nat) (v1 v2 : Value), L = [ob g #[.int .i64 D.g0, .int .i64 D.g1, .int .i64 D.g2, .int .i64 D.g3, .int .i64 D.g4, .int .i64 D.mode, .map (some gm), v1, v2] 125, mpRw D.cells gm, slFa v1 D.lasts, slFa v2 D.coming]
/-- A fault's ints are ints. -/
def FaOk (f : Fa) : Prop := -9223372036854775808 ≤ f.x6 ∧ f.x6 ≤ 9223372036854775807
structure DrOk (D : Dr) : Prop where
  cl : ∀ k, (D.cells k).length = 72
  l1 : D.lasts.length ≤ 256
  l2 : D.coming.length ≤ 256
  f1 : ∀ f ∈ D.lasts, FaOk f
  f2 : ∀ f ∈ D.coming, FaOk f
def D0 (r s b m c mode : Int) : Dr := ⟨r, s, b, m, c, mode, fun _ => zRw, [], []⟩
theorem D0_ok (r s b m c mode : Int) : DrOk (D0 r s b m c mode) := ⟨fun _ => List.length_replicate, Nat.zero_le _, Nat.zero_le _, fun f h => absurd h List.not_mem_nil, fun f h => absurd h List.not_mem_nil⟩
set_option maxRecDepth 100000 in
set_option maxHeartbeats 1000000 in
theorem dNew (r s b m c mode : Int) (hg : gright r s b m c = true) (hm : rightB mode = true) : Con Try.prog 31 #[.agg #[.int .i64 r, .int .i64 s, .int .i64 b, .int .i64 m, .int .i64 c], .int .i64 mode] [] [] (fun E => [.p (PkE (DramS ((E.blk 0)) (D0 r s b m c mode)))]) (fun E => .tuple #[.pointer (some ⟨(E.blk 0), 0, none⟩), .int .i64 0]) := by
 refine Con.of (enters_of Try.func31 (by kernel_rfl) rfl) fun w cs HS HH OW => ?_
 refine (callsIn_wide (n := 6)).1 ?_
 refine callsIn_of_wp_marks Try.func31 rfl trivial ?_ rfl
 simp only [Try.ntmps31, eF, Nat.reduceAdd, Nat.reduceSub]
 gi_upto_region 0 with fail
 refine rg (fun q1 => [.m (bx 0),
  .v (.pointer none),
  .v (.int .i64 0)]) (fun q1 L => L ++ [ob ((q1 0).blk 0) #[.int .i64 r, .int .i64 s, .int .i64 b, .int .i64 m, .int .i64 c] 27]) OW ?_
 clear OW; intro q1 _ Wq1 OW; simp only [↓pc, ↓pn, vE, Hint.val, Act.put, eL]
 gi_upto_region 1 with fail
 refine rg (fun q2 => [.m (ls 0 ([.int .i64 r, .int .i64 s, .int .i64 b, .int .i64 m, .int .i64 c])),
  .c [] [] (conB (enters_of Try.func72 (by kernel_rfl) rfl) fun w' => (gright_any r s b m c _)),
  .v (.bool (!(gright r s b m c))),
  .v (.bool (!(gright r s b m c)))]) (fun _ L => L) OW ?_
 clear OW; intro q2 _ Wq2 OW; simp only [↓pc, ↓pn, vE, Hint.val, Act.put, eL]
 cases hB3 : (!(gright r s b m c))
 case true => exact absurd (hB3.symm.trans (show _ = false from by rw [hg]; rfl)) (by decide)
 case false =>
  gi_upto_region 3 with fail
  refine rg (fun q4 => [.v (.int .i64 mode),
   .c [] [] (conS (enters_of Try.func60 (by kernel_rfl) rfl) fun w' => (right_any mode _)),
   .v (.bool (!(rightB mode))),
   .v (.bool (!(rightB mode)))]) (fun _ L => L) OW ?_
  clear OW; intro q4 _ Wq4 OW; simp only [↓pc, ↓pn, vE, Hint.val, Act.put, eL]
  cases hB5 : (!(rightB mode))
  case true => exact absurd (hB5.symm.trans (show _ = false from by rw [hm]; rfl)) (by decide)
  case false =>
   gi_upto_region 5 with fail
   refine rg (fun q6 => [.m (ls 0 ([.int .i64 r, .int .i64 s, .int .i64 b, .int .i64 m, .int .i64 c])),
    .v (.int .i64 mode),
    .m (mm 1 mRw zRw),
    .v (.agg #[.int .i64 r, .int .i64 s, .int .i64 b, .int .i64 m, .int .i64 c, .int .i64 mode, .map (some ((q6 2).blk 0)), .slice none 0 0, .slice none 0 0]),
    .m (bx 2),
    .v (.pointer (some ⟨(q6 4).blk 0, 0, none⟩)),
    .v (.int .i64 0)]) (fun q6 L => L ++ [mpRw (fun _ => zRw) ((q6 2).blk 0), ob ((q6 4).blk 0) #[.int .i64 r, .int .i64 s, .int .i64 b, .int .i64 m, .int .i64 c, .int .i64 mode, .map (some ((q6 2).blk 0)), .slice none 0 0, .slice none 0 0] 125]) OW ?_
   clear OW; intro q6 _ Wq6 OW; simp only [↓pc, ↓pn, vE, Hint.val, Act.put, eL]
   replace OW := Lib.hid (OW.out.nilS eFa [.int .i64 0, .int .i64 0, .int .i64 0, .int .i64 0, .int .i64 0, .int .i64 0, .int .i64 0, .int .i64 0] 25)
   replace OW := Lib.hid (OW.out.nilS eFa [.int .i64 0, .int .i64 0, .int .i64 0, .int .i64 0, .int .i64 0, .int .i64 0, .int .i64 0, .int .i64 0] 25)
   replace OW := Lib.hid (OwnE.re (L' := [ob ((q1 0).blk 0) #[.int .i64 r, .int .i64 s, .int .i64 b, .int .i64 m, .int .i64 c] 27, .p (PkE (DramS ((q6 4).blk 0) (D0 r s b m c mode)))]) OW.out [[0], [2, 1, 3, 4]] (Ns := [[ob ((q1 0).blk 0) #[.int .i64 r, .int .i64 s, .int .i64 b, .int .i64 m, .int .i64 c] 27], [ob ((q6 4).blk 0) #[.int .i64 r, .int .i64 s, .int .i64 b, .int .i64 m, .int .i64 c, .int .i64 mode, .map (some ((q6 2).blk 0)), .slice none 0 0, .slice none 0 0] 125, mpRw (fun _ => zRw) ((q6 2).blk 0), slFa (.slice none 0 0) ([]), slFa (.slice none 0 0) ([])]]) (by kernel_rfl) ⟨satG_one _, PkE.of (⟨_, _, _, rfl⟩), trivial⟩)
   gi_wp2
   exact leafE HS HH OW [.t (.pointer (some ⟨(q6 4).blk 0, 0, none⟩)), .t (.int .i64 0)] (.l [(q6 4).blk 0] [] []) [1] [] rfl
set_option maxRecDepth 100000 in
set_option maxHeartbeats 1000000 in
theorem dNewG (r s b m c mode : Int) (hg : gright r s b m c = false) : Con Try.prog 31 #[.agg #[.int .i64 r, .int .i64 s, .int .i64 b, .int .i64 m, .int .i64 c], .int .i64 mode] [] [] (fun _ => []) (fun _ => .tuple #[.pointer none, .int .i64 20]) := by
 refine Con.of (enters_of Try.func31 (by kernel_rfl) rfl) fun w cs HS HH OW => ?_
 refine (callsIn_wide (n := 6)).1 ?_
 refine callsIn_of_wp_marks Try.func31 rfl trivial ?_ rfl
 simp only [Try.ntmps31, eF, Nat.reduceAdd, Nat.reduceSub]
 gi_upto_region 0 with fail
 refine rg (fun q1 => [.m (bx 0),
  .v (.pointer none),
  .v (.int .i64 0)]) (fun q1 L => L ++ [ob ((q1 0).blk 0) #[.int .i64 r, .int .i64 s, .int .i64 b, .int .i64 m, .int .i64 c] 27]) OW ?_
 clear OW; intro q1 _ Wq1 OW; simp only [↓pc, ↓pn, vE, Hint.val, Act.put, eL]
 gi_upto_region 1 with fail
 refine rg (fun q2 => [.m (ls 0 ([.int .i64 r, .int .i64 s, .int .i64 b, .int .i64 m, .int .i64 c])),
  .c [] [] (conB (enters_of Try.func72 (by kernel_rfl) rfl) fun w' => (gright_any r s b m c _)),
  .v (.bool (!(gright r s b m c))),
  .v (.bool (!(gright r s b m c)))]) (fun _ L => L) OW ?_
 clear OW; intro q2 _ Wq2 OW; simp only [↓pc, ↓pn, vE, Hint.val, Act.put, eL]
 cases hB3 : (!(gright r s b m c))
 case true =>
  gi_upto_region 2 with fail
  refine rg (fun q4 => [.v (.pointer none),
   .v (.int .i64 20)]) (fun _ L => L) OW ?_
  clear OW; intro q4 _ Wq4 OW; simp only [↓pc, ↓pn, vE, Hint.val, Act.put, eL]
  gi_wp2
  exact leafE HS HH OW [.t (.pointer none), .t (.int .i64 20)] Env.zero [] [] rfl
 case false => exact absurd (hB3.symm.trans (show _ = true from by rw [hg]; rfl)) (by decide)
set_option maxRecDepth 100000 in
set_option maxHeartbeats 1000000 in
theorem dNewM (r s b m c mode : Int) (hg : gright r s b m c = true) (hm : rightB mode = false) : Con Try.prog 31 #[.agg #[.int .i64 r, .int .i64 s, .int .i64 b, .int .i64 m, .int .i64 c], .int .i64 mode] [] [] (fun _ => []) (fun _ => .tuple #[.pointer none, .int .i64 21]) := by
 refine Con.of (enters_of Try.func31 (by kernel_rfl) rfl) fun w cs HS HH OW => ?_
 refine (callsIn_wide (n := 6)).1 ?_
 refine callsIn_of_wp_marks Try.func31 rfl trivial ?_ rfl
 simp only [Try.ntmps31, eF, Nat.reduceAdd, Nat.reduceSub]
 gi_upto_region 0 with fail
 refine rg (fun q1 => [.m (bx 0),
  .v (.pointer none),
  .v (.int .i64 0)]) (fun q1 L => L ++ [ob ((q1 0).blk 0) #[.int .i64 r, .int .i64 s, .int .i64 b, .int .i64 m, .int .i64 c] 27]) OW ?_
 clear OW; intro q1 _ Wq1 OW; simp only [↓pc, ↓pn, vE, Hint.val, Act.put, eL]
 gi_upto_region 1 with fail
 refine rg (fun q2 => [.m (ls 0 ([.int .i64 r, .int .i64 s, .int .i64 b, .int .i64 m, .int .i64 c])),
  .c [] [] (conB (enters_of Try.func72 (by kernel_rfl) rfl) fun w' => (gright_any r s b m c _)),
  .v (.bool (!(gright r s b m c))),
  .v (.bool (!(gright r s b m c)))]) (fun _ L => L) OW ?_
 clear OW; intro q2 _ Wq2 OW; simp only [↓pc, ↓pn, vE, Hint.val, Act.put, eL]
 cases hB3 : (!(gright r s b m c))
 case true => exact absurd (hB3.symm.trans (show _ = false from by rw [hg]; rfl)) (by decide)
 case false =>
  gi_upto_region 3 with fail
  refine rg (fun q4 => [.v (.int .i64 mode),
   .c [] [] (conS (enters_of Try.func60 (by kernel_rfl) rfl) fun w' => (right_any mode _)),
   .v (.bool (!(rightB mode))),
   .v (.bool (!(rightB mode)))]) (fun _ L => L) OW ?_
  clear OW; intro q4 _ Wq4 OW; simp only [↓pc, ↓pn, vE, Hint.val, Act.put, eL]
  cases hB5 : (!(rightB mode))
  case true =>
   gi_upto_region 4 with fail
   refine rg (fun q6 => [.v (.pointer none),
    .v (.int .i64 21)]) (fun _ L => L) OW ?_
   clear OW; intro q6 _ Wq6 OW; simp only [↓pc, ↓pn, vE, Hint.val, Act.put, eL]
   gi_wp2
   exact leafE HS HH OW [.t (.pointer none), .t (.int .i64 21)] Env.zero [] [] rfl
  case false => exact absurd (hB5.symm.trans (show _ = true from by rw [hm]; rfl)) (by decide)
set_option maxRecDepth 100000 in
set_option maxHeartbeats 1000000 in
theorem dMode_c (g : Nat) (D : Dr) (bs0 : Objs) (h0 : PkE (DramS g D) bs0) : Con Try.prog 44 #[.pointer (some ⟨g, 0, none⟩)] [.c bs0] [] (fun _ => []) (fun _ => .int .i64 D.mode) := by
 obtain ⟨L4, cs4_0_0, ⟨gm, v1, v2, rfl⟩, hs4_0_0, hbs0⟩ := h0
 obtain ⟨_, cs4_0_1, rfl, rfl, hs4_0_1⟩ := satL_cons hs4_0_0
 obtain ⟨c0_1, cs4_0_2, rfl, k0_1, hs4_0_2⟩ := satL_cons hs4_0_1
 obtain ⟨c0_2, cs4_0_3, rfl, k0_2, hs4_0_3⟩ := satL_cons hs4_0_2
 obtain ⟨c0_3, cs4_0_4, rfl, k0_3, hs4_0_4⟩ := satL_cons hs4_0_3
 obtain rfl := satL_nil hs4_0_4
 refine Con.of (enters_of Try.func44 (by kernel_rfl) rfl) fun w cs HS HH OW => ?_
 refine (callsIn_wide (n := 6)).1 ?_
 refine callsIn_of_wp_marks Try.func44 rfl trivial ?_ rfl
 simp only [Try.ntmps44, eF, Nat.reduceAdd, Nat.reduceSub]
 replace OW := Lib.hid (OW.out.split 0 [[(g, .cells #[.int .i64 D.g0, .int .i64 D.g1, .int .i64 D.g2, .int .i64 D.g3, .int .i64 D.g4, .int .i64 D.mode, .map (some gm), v1, v2] 125 (0, 0))], c0_1, c0_2, c0_3] (congrArg (fun x => some (Ent.c x)) hbs0))
 replace OW := Lib.hid (OwnE.cast (L' := [.c [], ob g #[.int .i64 D.g0, .int .i64 D.g1, .int .i64 D.g2, .int .i64 D.g3, .int .i64 D.g4, .int .i64 D.mode, .map (some gm), v1, v2] 125, .c c0_1, .c c0_2, .c c0_3]) OW.out (by kernel_rfl))
 gi_upto_region 0 with fail
 refine rg (fun q1 => [.v (.int .i64 0)]) (fun _ L => L) OW ?_
 clear OW; intro q1 _ Wq1 OW; simp only [↓pc, ↓pn, vE, Hint.val, Act.put, eL]
 gi_upto_region 1 with fail
 refine rg (fun q2 => [.v (.pointer (some ⟨g, 0, none⟩)),
  .v (.pointer (some ⟨g, 0, none⟩)),
  .v (.pointer (some ⟨g, 5, none⟩)),
  .m (ld 1 (.int .i64 D.mode)),
  .v (.int .i64 D.mode)]) (fun _ L => L) OW ?_
 clear OW; intro q2 _ Wq2 OW; simp only [↓pc, ↓pn, vE, Hint.val, Act.put, eL]
 replace OW := Lib.hid (OwnE.re (L' := [.c bs0, .c []]) OW.out [[1, 2, 3, 4], [0]] (Ns := [[ob g #[.int .i64 D.g0, .int .i64 D.g1, .int .i64 D.g2, .int .i64 D.g3, .int .i64 D.g4, .int .i64 D.mode, .map (some gm), v1, v2] 125, .c c0_1, .c c0_2, .c c0_3], [.c []]]) (by kernel_rfl) ⟨fun ds hd => (show ds.flatten = bs0 by rw [satL_cE (cs := [[(g, .cells #[.int .i64 D.g0, .int .i64 D.g1, .int .i64 D.g2, .int .i64 D.g3, .int .i64 D.g4, .int .i64 D.mode, .map (some gm), v1, v2] 125 (0, 0))], c0_1, c0_2, c0_3]) hd]; exact hbs0.symm), satG_one _, trivial⟩)
 gi_wp2
 exact leafE HS HH OW [.t (.int .i64 D.mode)] Env.zero [] [(0, 0)] rfl
theorem dMode (g : Nat) (D : Dr) : Con Try.prog 44 #[.pointer (some ⟨g, 0, none⟩)] [.p (PkE (DramS g D))] [] (fun _ => []) (fun _ => .int .i64 D.mode) :=
 Con.ro 0 rfl (fun bs0 h0 => dMode_c g D bs0 h0) (enters_of Try.func44 (by kernel_rfl) rfl)
end Go.Proofs.Ytckhkagkpldoiaa.E
