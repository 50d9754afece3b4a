/- Several texts in one: DvD DvE. -/
import Derived.Test.YtckhkagkpldoiaaDvB
import Derived.WalkKit
import Derived.Sort.CutIn
import Derived.IntWalk
import Derived.Test.YtckhkagkpldoiaaDvC
import Derived.Test.YtckhkagkpldoiaaEs
namespace Go.Proofs.Ytckhkagkpldoiaa.E
open Go Go.RowKit Go.Shelf
attribute [local go_sem] Oper.semAt_some
set_option linter.unusedVariables false
set_option linter.unusedSimpArgs false

set_option maxRecDepth 100000 in
set_option maxHeartbeats 1000000 in
theorem vCount_c (g : Nat) (V : Dv) (bs0 : Objs) (h0 : PkE (DevS g V) bs0) : Con Try.prog 84 #[.pointer (some ⟨g, 0, none⟩)] [.c bs0] [] (fun _ => []) (fun _ => .int .i64 (V.l.length : Int)) := by
 obtain ⟨L4, cs4_0_0, ⟨dg, gm, gk, v, rfl⟩, hs4_0_0, hbs0⟩ := h0
 obtain ⟨_, cs4_0_1, rfl, rfl, hs4_0_1⟩ := satL_cons hs4_0_0
 obtain ⟨c0_1, cs4_0_2, rfl, k0_1, hs4_0_2⟩ := satL_cons hs4_0_1
 obtain ⟨c0_2, cs4_0_3, rfl, k0_2, hs4_0_3⟩ := satL_cons hs4_0_2
 obtain ⟨c0_3, cs4_0_4, rfl, k0_3, hs4_0_4⟩ := satL_cons hs4_0_3
 obtain ⟨c0_4, cs4_0_5, rfl, k0_4, hs4_0_5⟩ := satL_cons hs4_0_4
 obtain rfl := satL_nil hs4_0_5
 refine Con.of (enters_of Try.func84 (by kernel_rfl) rfl) fun w cs HS HH OW => ?_
 refine (callsIn_wide (n := 6)).1 ?_
 refine callsIn_of_wp_marks Try.func84 rfl trivial ?_ rfl
 simp only [Try.ntmps84, eF, Nat.reduceAdd, Nat.reduceSub]
 replace OW := Lib.hid (OW.out.split 0 [[(g, .cells #[.pointer (some ⟨dg, 0, none⟩), .map (some gm), .map (some gk), v] 141 (0, 0))], c0_1, c0_2, c0_3, c0_4] (congrArg (fun x => some (Ent.c x)) hbs0))
 replace OW := Lib.hid (OwnE.cast (L' := [.c [], ob g #[.pointer (some ⟨dg, 0, none⟩), .map (some gm), .map (some gk), v] 141, .c c0_1, .c c0_2, .c c0_3, .c c0_4]) OW.out (by kernel_rfl))
 gi_upto_region 0 with fail
 refine rg (fun q1 => [.v (.int .i64 0)]) (fun _ L => L) OW ?_
 clear OW; intro q1 _ Wq1 OW; simp only [↓pc, ↓pn, vE, Hint.val, Act.put, eL]
 gi_upto_region 1 with fail
 refine rg (fun q2 => [.v (.pointer (some ⟨g, 0, none⟩)),
  .v (.pointer (some ⟨g, 0, none⟩)),
  .v (.pointer (some ⟨g, 3, none⟩)),
  .m (ld 1 (v)),
  .m (lenS 5 (.c c0_4) (cP k0_4)),
  .v (.int .i64 (V.l.length : Int))]) (fun _ L => L) OW ?_
 clear OW; intro q2 _ Wq2 OW; simp only [↓pc, ↓pn, vE, Hint.val, Act.put, eL]
 replace OW := Lib.hid (OwnE.re (L' := [.c bs0, .c []]) OW.out [[1, 2, 3, 4, 5], [0]] (Ns := [[ob g #[.pointer (some ⟨dg, 0, none⟩), .map (some gm), .map (some gk), v] 141, .c c0_1, .c c0_2, .c c0_3, .c c0_4], [.c []]]) (by kernel_rfl) ⟨fun ds hd => (show ds.flatten = bs0 by rw [satL_cE (cs := [[(g, .cells #[.pointer (some ⟨dg, 0, none⟩), .map (some gm), .map (some gk), v] 141 (0, 0))], c0_1, c0_2, c0_3, c0_4]) hd]; exact hbs0.symm), satG_one _, trivial⟩)
 gi_wp2
 exact leafE HS HH OW [.t (.int .i64 (V.l.length : Int))] Env.zero [] [(0, 0)] rfl
theorem vCount (g : Nat) (V : Dv) : Con Try.prog 84 #[.pointer (some ⟨g, 0, none⟩)] [.p (PkE (DevS g V))] [] (fun _ => []) (fun _ => .int .i64 (V.l.length : Int)) :=
 Con.ro 0 rfl (fun bs0 h0 => vCount_c g V bs0 h0) (enters_of Try.func84 (by kernel_rfl) rfl)
set_option maxRecDepth 100000 in
set_option maxHeartbeats 1000000 in
theorem vAccesses (g : Nat) (n : Int) : Con Try.prog 54 #[.pointer (some ⟨g, 0, none⟩), .int .i64 n] [] [] (fun E => [ob (E.blk 0) #[.int .i64 n] 3, ob (E.blk 1) #[.pointer (some ⟨g, 0, none⟩)] 92]) (fun E => .func (.func 88) #[] #[.pointer (some ⟨(E.blk 0), 0, none⟩), .pointer (some ⟨(E.blk 1), 0, none⟩)]) := by
 refine Con.of (enters_of Try.func54 (by kernel_rfl) rfl) fun w cs HS HH OW => ?_
 refine (callsIn_wide (n := 6)).1 ?_
 refine callsIn_of_wp_marks Try.func54 rfl trivial ?_ rfl
 simp only [Try.ntmps54, eF, Nat.reduceAdd, Nat.reduceSub]
 gi_upto_region 0 with fail
 refine rg (fun q1 => [.m (bx 0),
  .m (bx 1),
  .v (.nilFunc)]) (fun q1 L => L ++ [ob ((q1 0).blk 0) #[.pointer (some ⟨g, 0, none⟩)] 92, ob ((q1 1).blk 0) #[.int .i64 n] 3]) OW ?_
 clear OW; intro q1 _ Wq1 OW; simp only [↓pc, ↓pn, vE, Hint.val, Act.put, eL]
 gi_upto_region 1 with fail
 refine rg (fun q2 => [.v (.func (.func 88) #[] #[.pointer (some ⟨(q1 1).blk 0, 0, none⟩), .pointer (some ⟨(q1 0).blk 0, 0, none⟩)]),
  .v (.func (.func 88) #[] #[.pointer (some ⟨(q1 1).blk 0, 0, none⟩), .pointer (some ⟨(q1 0).blk 0, 0, none⟩)])]) (fun _ L => L) OW ?_
 clear OW; intro q2 _ Wq2 OW; simp only [↓pc, ↓pn, vE, Hint.val, Act.put, eL]
 gi_wp2
 exact leafE HS HH OW [.t (.func (.func 88) #[] #[.pointer (some ⟨(q1 1).blk 0, 0, none⟩), .pointer (some ⟨(q1 0).blk 0, 0, none⟩)])] (.l [(q1 1).blk 0, (q1 0).blk 0] [] []) [1, 0] [] rfl
end Go.Proofs.Ytckhkagkpldoiaa.E
namespace Go.Proofs.Ytckhkagkpldoiaa.E
open Go Go.RowKit Go.Shelf
attribute [local go_sem] Oper.semAt_some
set_option linter.unusedVariables false
set_option linter.unusedSimpArgs false

def fromN (n : Int) : Nat := (max n 0).toNat
theorem fromN_eq (n : Int) : max n 0 = ((fromN n + 0 : Nat) : Int) := by unfold fromN; omega
set_option maxRecDepth 100000 in
set_option maxHeartbeats 1000000 in
theorem vAcc_c (m : Nat) (h1 : 1 ≤ m) (gf gd g : Nat) (V : Dv) (n : Int) (dg gm gk : Nat) (v : Value) (b1 b2 b3 b4 : Objs) (h4 : SlE eAc [.bool false, .int .i64 0, .int .i64 0, .bool false, .int .i64 0, .bool false] 101 v V.l b4) (hl : V.l.length ≤ 1000000) : IterE m Try.prog 88 #[.pointer (some ⟨gf, 0, none⟩), .pointer (some ⟨gd, 0, none⟩)] (fun (i : Nat) => #[.int .i64 ((i : Nat) : Int), .agg #[.bool (V.l.getD i zAc).wr, .int .i64 (V.l.getD i zAc).index, .int .i64 (V.l.getD i zAc).at_, .bool (V.l.getD i zAc).drop, .int .i64 (V.l.getD i zAc).expo, .bool (V.l.getD i zAc).mark]]) ((List.range (V.l.length - fromN n)).map (fun k => fromN n + k)) (List.flatten [[(gf, .cells #[.int .i64 n] 3 (0, 0))], [(gd, .cells #[.pointer (some ⟨g, 0, none⟩)] 92 (0, 0))], [(g, .cells #[.pointer (some ⟨dg, 0, none⟩), .map (some gm), .map (some gk), v] 141 (0, 0))], b1, b2, b3, b4]) := by
 refine iterE_of2 ?_
 intro lY JY JX WI KX NX hJ hKX hNX HY HI0
 obtain ⟨RI, HI, OW⟩ := ItL.start (Os := [[(gf, .cells #[.int .i64 n] 3 (0, 0))], [(gd, .cells #[.pointer (some ⟨g, 0, none⟩)] 92 (0, 0))], [(g, .cells #[.pointer (some ⟨dg, 0, none⟩), .map (some gm), .map (some gk), v] 141 (0, 0))], b1, b2, b3, b4]) (ItL.zero HI0.out)
 clear HI0
 replace OW := Lib.hid (OwnE.cast (L' := [ob gf #[.int .i64 n] 3, ob gd #[.pointer (some ⟨g, 0, none⟩)] 92, ob g #[.pointer (some ⟨dg, 0, none⟩), .map (some gm), .map (some gk), v] 141, .c b1, .c b2, .c b3, .c b4]) OW.out (by kernel_rfl))
 have HN := Lib.hid (fromN_eq n)
 refine callsIn_of_wp Try.func88 rfl trivial ?_ rfl
 simp only [Try.ntmps88, eF, Nat.reduceAdd, Nat.reduceSub]
 gi_upto_region 0 with fail
 refine rg (fun q1 => [.m (ld 0 (.int .i64 n)),
  .t (tv (Builtin.max_ #[3, 3] 3 #[.int .i64 n, .int .i64 0]) (fun _ => run_maxI _ _ _ _)),
  .v (.int .i64 (max n 0))]) (fun _ L => L) OW ?_
 clear OW; intro q1 _ Wq1 OW; simp only [↓pc, ↓pn, vE, Hint.val, Act.put, eL]
 gi_wp2
 gi_loopw [4] (fun z4 wr => ∃ k : Nat, k ≤ V.l.length - fromN n ∧ z4 = .int .i64 ((fromN n + k : Nat) : Int) ∧ ItL JY [[(gf, .cells #[.int .i64 n] 3 (0, 0))], [(gd, .cells #[.pointer (some ⟨g, 0, none⟩)] 92 (0, 0))], [(g, .cells #[.pointer (some ⟨dg, 0, none⟩), .map (some gm), .map (some gk), v] 141 (0, 0))], b1, b2, b3, b4] WI [] (k) wr) (fun z4 _ => V.l.length - (intOf z4).toNat)
 case atStart => exact ⟨0, by omega, congrArg _ HN.out, (ItL.count (by skip; exact ItC.step (Os := [[(gf, .cells #[.int .i64 n] 3 (0, 0))], [(gd, .cells #[.pointer (some ⟨g, 0, none⟩)] 92 (0, 0))], [(g, .cells #[.pointer (some ⟨dg, 0, none⟩), .map (some gm), .map (some gk), v] 141 (0, 0))], b1, b2, b3, b4]) (LE := []) HI hJ (OwnE.cast OW.out (by kernel_rfl))) (by rfl))⟩
 case round =>
  obtain ⟨k, hk2, rfl, hI⟩ := hrel
  clear OW HI
  obtain ⟨R3, HI4, OW⟩ := ItL.start (Os := [[(gf, .cells #[.int .i64 n] 3 (0, 0))], [(gd, .cells #[.pointer (some ⟨g, 0, none⟩)] 92 (0, 0))], [(g, .cells #[.pointer (some ⟨dg, 0, none⟩), .map (some gm), .map (some gk), v] 141 (0, 0))], b1, b2, b3, b4]) (LE := []) (hI)
  replace OW := Lib.hid (OwnE.cast (L' := [ob gf #[.int .i64 n] 3, ob gd #[.pointer (some ⟨g, 0, none⟩)] 92, ob g #[.pointer (some ⟨dg, 0, none⟩), .map (some gm), .map (some gk), v] 141, .c b1, .c b2, .c b3, .c b4]) OW.out (by kernel_rfl))
  clear hI
  gi_upto_region 1 with fail
  refine rg (fun q5 => [.v (.int .i64 ((fromN n + k : Nat) : Int)),
   .m (ld 1 (.pointer (some ⟨g, 0, none⟩))),
   .v (.pointer (some ⟨g, 0, none⟩)),
   .v (.pointer (some ⟨g, 3, none⟩)),
   .m (ld 2 (v)),
   .m (lenS 6 (.c b4) (cP h4)),
   .v (.bool (decide (((fromN n + k : Nat) : Int) < (V.l.length : Int))))]) (fun _ L => L) OW ?_
  clear OW; intro q5 _ Wq5 OW; simp only [↓pc, ↓pn, vE, Hint.val, Act.put, eL]
  cases hB6 : (decide (((fromN n + k : Nat) : Int) < (V.l.length : Int)))
  case true =>
   have dhB6 := of_decide_eq_true hB6
   gi_upto_region 3 with fail
   refine wpIn_region_eP 9 7 (fun q7 => [.v (.func (.yield lY) #[] #[]),
    .v (.int .i64 ((fromN n + k : Nat) : Int)),
    .m (ld 1 (.pointer (some ⟨g, 0, none⟩))),
    .v (.pointer (some ⟨g, 0, none⟩)),
    .v (.pointer (some ⟨g, 3, none⟩)),
    .m (ld 2 (v)),
    .v (.int .i64 ((fromN n + k : Nat) : Int)),
    .m (idxS 6 (.c b4) (fromN n + k) 6 (cP h4) (by omega)),
    .m (lsS (l := [.bool ((V.l.getD (fromN n + k) zAc).wr), .int .i64 ((V.l.getD (fromN n + k) zAc).index), .int .i64 ((V.l.getD (fromN n + k) zAc).at_), .bool ((V.l.getD (fromN n + k) zAc).drop), .int .i64 ((V.l.getD (fromN n + k) zAc).expo), .bool ((V.l.getD (fromN n + k) zAc).mark)]) (d := zAc) 6 (.c b4) (fromN n + k) 6 0 (cP h4) (fun _ => rfl) (by omega) (Nat.le_of_ble_eq_true rfl) (by kernel_rfl))]) (fun _ L => L) OW (fun _ => by kernel_rfl) ?_
   clear OW; intro q7 _ Wq7 OW; simp only [↓pc, ↓pn, vE, Hint.val, Act.put, eL, List.take_succ_cons, List.take_zero, List.drop_succ_cons, List.drop_zero]
   have hI8 := ItC.step (Os := [[(gf, .cells #[.int .i64 n] 3 (0, 0))], [(gd, .cells #[.pointer (some ⟨g, 0, none⟩)] 92 (0, 0))], [(g, .cells #[.pointer (some ⟨dg, 0, none⟩), .map (some gm), .map (some gk), v] 141 (0, 0))], b1, b2, b3, b4]) (LE := []) HI4 hJ (OW.out)
   obtain ⟨dY, hsY, hIY⟩ := hI8
   have hg10 : ((List.range (V.l.length - fromN n)).map (fun k => fromN n + k))[k]? = some _ := range_map_get (by omega)
   obtain ⟨fn, tmps, assign, body, hy9, hR⟩ := HY.out dY.flatten _ _ _ hg10 hIY
   clear OW HI4
   try dsimp only at hy9
   generalize hgen11 : V.l.getD (fromN n + k) zAc = gen12 at hy9 ⊢
   generalize hgen13 : fromN n + k = gen14 at hy9 ⊢
   gi_wp2
   refine hR.mono ?_
   rintro e W15 (⟨rfl, hI3⟩ | ⟨rfl, Oy, hJx⟩)
   ·
    clear hy9 hR
    subst hgen11
    subst hgen13
    obtain ⟨R16, HI17, OW⟩ := ItL.start (Os := [[(gf, .cells #[.int .i64 n] 3 (0, 0))], [(gd, .cells #[.pointer (some ⟨g, 0, none⟩)] 92 (0, 0))], [(g, .cells #[.pointer (some ⟨dg, 0, none⟩), .map (some gm), .map (some gk), v] 141 (0, 0))], b1, b2, b3, b4]) (LE := []) (⟨dY, hsY, hI3⟩)
    replace OW := Lib.hid (OwnE.cast (L' := [ob gf #[.int .i64 n] 3, ob gd #[.pointer (some ⟨g, 0, none⟩)] 92, ob g #[.pointer (some ⟨dg, 0, none⟩), .map (some gm), .map (some gk), v] 141, .c b1, .c b2, .c b3, .c b4]) OW.out (by kernel_rfl))
    clear hI3
    gi_upto_region 2 with fail
    refine rg (fun q18 => [.v (.int .i64 ((fromN n + k : Nat) : Int)),
     .t (tb (a := .int .i64 ((fromN n + k : Nat) : Int)) (b := .int .i64 1) fun _ _ _ _ => bin_add_nat (a := fromN n + k) (b := 1) (by omega)),
     .v (.int .i64 (((fromN n + k) + 1 : Nat) : Int))]) (fun _ L => L) OW ?_
    clear OW; intro q18 _ Wq18 OW; simp only [↓pc, ↓pn, vE, Hint.val, Act.put, eL]
    gi_wp2
    go_roundw
    case rel => exact ⟨k + 1, by omega, by go_num, (ItL.count (by skip; exact ItC.step (Os := [[(gf, .cells #[.int .i64 n] 3 (0, 0))], [(gd, .cells #[.pointer (some ⟨g, 0, none⟩)] 92 (0, 0))], [(g, .cells #[.pointer (some ⟨dg, 0, none⟩), .map (some gm), .map (some gk), v] 141 (0, 0))], b1, b2, b3, b4]) (LE := []) HI17 hJ (OwnE.pick OW.out [0, 1, 2, 3, 4, 5, 6] _ (by kernel_rfl))) (by rfl))⟩
    case measure => (simp [intOf] <;> omega)
   ·
    clear hy9 hR
    subst hgen11
    subst hgen13
    have HX := Lib.hid hJx
    clear hJx
    gi_wp2
    refine bodyPost_ret (results_none rfl _ _ _) rfl ?_
    exact ⟨⟨_, rfl⟩, .inr ⟨_, (by rw [hNX.out]; exact (List.getElem?_eq_some_iff.1 hg10).1), _, HX.out⟩⟩
  have dhB6 := of_decide_eq_false hB6
  gi_wp2
  go_end0
  exact ⟨⟨_, rfl⟩, .inl (by rw [hKX.out, hNX.out]; exact ItL.leaf (ItL.count (ItC.step (Os := [[(gf, .cells #[.int .i64 n] 3 (0, 0))], [(gd, .cells #[.pointer (some ⟨g, 0, none⟩)] 92 (0, 0))], [(g, .cells #[.pointer (some ⟨dg, 0, none⟩), .map (some gm), .map (some gk), v] 141 (0, 0))], b1, b2, b3, b4]) (LE := []) HI4 hJ (OW.out)) (by (rw [List.length_map, List.length_range]; omega))))⟩
theorem vAcc (m : Nat) (h1 : 1 ≤ m) (gf gd g : Nat) (V : Dv) (n : Int) (hl : V.l.length ≤ 1000000) (bs : Objs) (h : PkE (DevS g V) bs) : IterE m Try.prog 88 #[.pointer (some ⟨gf, 0, none⟩), .pointer (some ⟨gd, 0, none⟩)] (fun (i : Nat) => #[.int .i64 ((i : Nat) : Int), .agg #[.bool (V.l.getD i zAc).wr, .int .i64 (V.l.getD i zAc).index, .int .i64 (V.l.getD i zAc).at_, .bool (V.l.getD i zAc).drop, .int .i64 (V.l.getD i zAc).expo, .bool (V.l.getD i zAc).mark]]) ((List.range (V.l.length - fromN n)).map (fun k => fromN n + k)) (List.flatten [[(gf, .cells #[.int .i64 n] 3 (0, 0))], [(gd, .cells #[.pointer (some ⟨g, 0, none⟩)] 92 (0, 0))], bs]) := by
  obtain ⟨L4, cs, ⟨dg, gm, gk, v, rfl⟩, hs, rfl⟩ := h
  obtain ⟨_, cs1, rfl, rfl, hs1⟩ := satL_cons hs
  obtain ⟨c1, cs2, rfl, k1, hs2⟩ := satL_cons hs1
  obtain ⟨c2, cs3, rfl, k2, hs3⟩ := satL_cons hs2
  obtain ⟨c3, cs4, rfl, k3, hs4⟩ := satL_cons hs3
  obtain ⟨c4, cs5, rfl, k4, hs5⟩ := satL_cons hs4
  obtain rfl := satL_nil hs5
  have h2 := vAcc_c m h1 gf gd g V n dg gm gk v c1 c2 c3 c4 k4 hl
  simp only [List.flatten_cons, List.flatten_nil, List.append_nil] at h2 ⊢
  exact h2
end Go.Proofs.Ytckhkagkpldoiaa.E
