/- A device: chips, what was meant to be in them, all accesses. -/
import Derived.Test.YtckhkagkpldoiaaDrF
import Derived.WalkKit
import Derived.Sort.CutIn
import Derived.IntWalk
namespace Go.Proofs.Ytckhkagkpldoiaa.E
open Go Go.RowKit Go.Shelf
attribute [local go_sem] Oper.semAt_some
set_option linter.unusedVariables false
set_option linter.unusedSimpArgs false

structure Ac where
  wr : Bool
  index : Int
  at_ : Int
  drop : Bool
  expo : Int
  mark : Bool
def eAc (a : Ac) : List Value := [.bool a.wr, .int .i64 a.index, .int .i64 a.at_, .bool a.drop, .int .i64 a.expo, .bool a.mark]
def zAc : Ac := ⟨false, 0, 0, false, 0, false⟩
abbrev slAc (v : Value) (xs : List Ac) : Ent := .p (SlE eAc [.bool false, .int .i64 0, .int .i64 0, .bool false, .int .i64 0, .bool false] 101 v xs)
theorem slTAc : SlT Try.prog 139 101 [.bool false, .int .i64 0, .int .i64 0, .bool false, .int .i64 0, .bool false] := SlT.mk' (by kernel_rfl) (by kernel_rfl) rfl
theorem h1Ac : ∀ y, ∀ u ∈ eAc y, u.oneCell' = true := fun y u hu => by
  simp only [eAc, List.mem_cons, List.not_mem_nil, or_false] at hu
  rcases hu with rfl | rfl | rfl | rfl | rfl | rfl <;> rfl
def mMk (x : Int) : Value := .int .i64 x
abbrev mpMk (f : Int → Int) (g : Nat) : Ent := .p (MpE mMk 0 f g)
structure Dv where
  D : Dr
  ghost : Int → List UInt8
  marks : Int → Int
  l : List Ac
/-- The device at a place. -/
def DevS (g : Nat) (V : Dv) (L : Ents) : Prop := ∃ (dg gm gk : Nat) (v : Value), L = [ob g #[.pointer (some ⟨dg, 0, none⟩), .map (some gm), .map (some gk), v] 141, .p (PkE (DramS dg V.D)), mpRw V.ghost gm, mpMk V.marks gk, slAc v V.l]
structure DvOk (V : Dv) : Prop where
  D : DrOk V.D
  gl : ∀ k, (V.ghost k).length = 72
  ll : V.l.length ≤ 100000
set_option maxRecDepth 100000 in
set_option maxHeartbeats 1000000 in
theorem vGhost_c (g : Nat) (V : Dv) (i : Int) (bs0 : Objs) (h0 : PkE (DevS g V) bs0) : Con Try.prog 55 #[.pointer (some ⟨g, 0, none⟩), .int .i64 i] [.c bs0] [] (fun _ => []) (fun _ => .agg (rB 72 (V.ghost i)).toArray) := by
 obtain ⟨L4, cs4_0_0, ⟨dg, gm, gk, v, rfl⟩, hs4_0_0, hbs0⟩ := h0
 obtain ⟨_, cs4_0_1, rfl, rfl, hs4_0_1⟩ := satL_cons hs4_0_0
 obtain ⟨c0_1, cs4_0_2, rfl, k0_1, hs4_0_2⟩ := satL_cons hs4_0_1
 obtain ⟨c0_2, cs4_0_3, rfl, k0_2, hs4_0_3⟩ := satL_cons hs4_0_2
 obtain ⟨c0_3, cs4_0_4, rfl, k0_3, hs4_0_4⟩ := satL_cons hs4_0_3
 obtain ⟨c0_4, cs4_0_5, rfl, k0_4, hs4_0_5⟩ := satL_cons hs4_0_4
 obtain rfl := satL_nil hs4_0_5
 refine Con.of (enters_of Try.func55 (by kernel_rfl) rfl) fun w cs HS HH OW => ?_
 refine (callsIn_wide (n := 6)).1 ?_
 refine callsIn_of_wp_marks Try.func55 rfl trivial ?_ rfl
 simp only [Try.ntmps55, eF, Nat.reduceAdd, Nat.reduceSub]
 replace OW := Lib.hid (OW.out.split 0 [[(g, .cells #[.pointer (some ⟨dg, 0, none⟩), .map (some gm), .map (some gk), v] 141 (0, 0))], c0_1, c0_2, c0_3, c0_4] (congrArg (fun x => some (Ent.c x)) hbs0))
 replace OW := Lib.hid (OwnE.cast (L' := [.c [], ob g #[.pointer (some ⟨dg, 0, none⟩), .map (some gm), .map (some gk), v] 141, .c c0_1, .c c0_2, .c c0_3, .c c0_4]) OW.out (by kernel_rfl))
 gi_upto_region 0 with fail
 refine rg (fun q1 => [.m (al 6)]) (fun q1 L => L ++ [ob ((q1 0).blk 0) (rB 72 (List.replicate 72 0)).toArray 41]) OW ?_
 clear OW; intro q1 _ Wq1 OW; simp only [↓pc, ↓pn, vE, Hint.val, Act.put, eL]
 gi_upto_region 1 with fail
 refine rg (fun q2 => [.v (.pointer (some ⟨g, 0, none⟩)),
  .v (.pointer (some ⟨g, 0, none⟩)),
  .v (.pointer (some ⟨g, 1, none⟩)),
  .m (ld 1 (.map (some gm))),
  .v (.int .i64 i),
  .m (mg 3 (.c c0_2) gm i (cP k0_2)),
  .m (ss 6)]) (fun q2 L => L.set 6 (ob ((q1 0).blk 0) (rB 72 (V.ghost i)).toArray 41)) OW ?_
 clear OW; intro q2 _ Wq2 OW; simp only [↓pc, ↓pn, vE, Hint.val, Act.put, eL]
 replace OW := Lib.hid (OwnE.re (L' := [.c bs0, .c [], ob ((q1 0).blk 0) (rB 72 (V.ghost i)).toArray 41]) OW.out [[1, 2, 3, 4, 5], [0], [6]] (Ns := [[ob g #[.pointer (some ⟨dg, 0, none⟩), .map (some gm), .map (some gk), v] 141, .c c0_1, .c c0_2, .c c0_3, .c c0_4], [.c []], [ob ((q1 0).blk 0) (rB 72 (V.ghost i)).toArray 41]]) (by kernel_rfl) ⟨fun ds hd => (show ds.flatten = bs0 by rw [satL_cE (cs := [[(g, .cells #[.pointer (some ⟨dg, 0, none⟩), .map (some gm), .map (some gk), v] 141 (0, 0))], c0_1, c0_2, c0_3, c0_4]) hd]; exact hbs0.symm), satG_one _, satG_one _, trivial⟩)
 gi_wp2
 exact leafE HS HH OW [.s (rB 72 (V.ghost i)) 2] Env.zero [] [(0, 0)] rfl
theorem vGhost (g : Nat) (V : Dv) (i : Int) : Con Try.prog 55 #[.pointer (some ⟨g, 0, none⟩), .int .i64 i] [.p (PkE (DevS g V))] [] (fun _ => []) (fun _ => .agg (rB 72 (V.ghost i)).toArray) :=
 Con.ro 0 rfl (fun bs0 h0 => vGhost_c g V i bs0 h0) (enters_of Try.func55 (by kernel_rfl) rfl)
def injV (V : Dv) (f : Fa) : Dv := { V with D := injD V.D f }
set_option maxRecDepth 100000 in
set_option maxHeartbeats 1000000 in
theorem vInject (g : Nat) (V : Dv) (f : Fa) (hV : DvOk V) (hf : FaOk f) : Con Try.prog 51 #[.pointer (some ⟨g, 0, none⟩), .agg #[.int .i64 f.x0, .int .i64 f.x1, .int .i64 f.x2, .int .i64 f.x3, .int .i64 f.x4, .int .i64 f.x5, .int .i64 f.x6, .int .i64 f.x7]] [.p (PkE (DevS g V))] [0] (fun _ => [.p (PkE (DevS g (injV V f)))]) (fun _ => .int .i64 (dInject_0 V.D f)) := by
 refine Con.of (enters_of Try.func51 (by kernel_rfl) rfl) fun w cs HS HH OW => ?_
 refine (callsIn_wide (n := 6)).1 ?_
 refine callsIn_of_wp_marks Try.func51 rfl trivial ?_ rfl
 simp only [Try.ntmps51, eF, Nat.reduceAdd, Nat.reduceSub]
 gi_upto_region 0 with fail
 refine rg (fun q1 => [.m (bx 1),
  .v (.int .i64 0)]) (fun q1 L => L ++ [ob ((q1 0).blk 0) #[.int .i64 f.x0, .int .i64 f.x1, .int .i64 f.x2, .int .i64 f.x3, .int .i64 f.x4, .int .i64 f.x5, .int .i64 f.x6, .int .i64 f.x7] 25]) OW ?_
 clear OW; intro q1 _ Wq1 OW; simp only [↓pc, ↓pn, vE, Hint.val, Act.put, eL]
 gi_upto_region 1 with fail
 obtain ⟨L4, ⟨dg, gm, gk, v, rfl⟩, OW0⟩ := OW.out.openE (S := DevS g V) 0
 replace OW := Lib.hid (OwnE.cast (L' := [.c [], ob ((q1 0).blk 0) #[.int .i64 f.x0, .int .i64 f.x1, .int .i64 f.x2, .int .i64 f.x3, .int .i64 f.x4, .int .i64 f.x5, .int .i64 f.x6, .int .i64 f.x7] 25, ob g #[.pointer (some ⟨dg, 0, none⟩), .map (some gm), .map (some gk), v] 141, .p (PkE (DramS dg V.D)), mpRw V.ghost gm, mpMk V.marks gk, slAc v V.l]) OW0 (by kernel_rfl)); clear OW0
 refine rg (fun q2 => [.v (.pointer (some ⟨g, 0, none⟩)),
  .v (.pointer (some ⟨g, 0, none⟩)),
  .v (.pointer (some ⟨g, 0, none⟩)),
  .m (ld 2 (.pointer (some ⟨dg, 0, none⟩))),
  .m (ls 1 ([.int .i64 f.x0, .int .i64 f.x1, .int .i64 f.x2, .int .i64 f.x3, .int .i64 f.x4, .int .i64 f.x5, .int .i64 f.x6, .int .i64 f.x7])),
  .c [3] [3] (dInject dg V.D f hV.D hf),
  .v (.int .i64 (dInject_0 V.D f))]) (fun q2 L => L.set 3 (.p (PkE (DramS dg (injD V.D f))))) OW ?_
 clear OW; intro q2 _ Wq2 OW; simp only [↓pc, ↓pn, vE, Hint.val, Act.put, eL]
 replace OW := Lib.hid (OwnE.re (L' := [.c [], ob ((q1 0).blk 0) #[.int .i64 f.x0, .int .i64 f.x1, .int .i64 f.x2, .int .i64 f.x3, .int .i64 f.x4, .int .i64 f.x5, .int .i64 f.x6, .int .i64 f.x7] 25, .p (PkE (DevS g { V with D := injD V.D f }))]) OW.out [[0], [1], [2, 3, 4, 5, 6]] (Ns := [[.c []], [ob ((q1 0).blk 0) #[.int .i64 f.x0, .int .i64 f.x1, .int .i64 f.x2, .int .i64 f.x3, .int .i64 f.x4, .int .i64 f.x5, .int .i64 f.x6, .int .i64 f.x7] 25], [ob g #[.pointer (some ⟨dg, 0, none⟩), .map (some gm), .map (some gk), v] 141, .p (PkE (DramS dg (injD V.D f))), mpRw V.ghost gm, mpMk V.marks gk, slAc v V.l]]) (by kernel_rfl) ⟨satG_one _, satG_one _, PkE.of (⟨_, _, _, _, rfl⟩), trivial⟩)
 gi_wp2
 exact leafE HS HH OW [.t (.int .i64 (dInject_0 V.D f))] Env.zero [2] [] rfl (by kernel_rfl) (by simp only [injV]; (repeat (first | rw [cond_true] | rw [cond_false])); kernel_rfl)
end Go.Proofs.Ytckhkagkpldoiaa.E
