/- DeviceQuiet, walked. -/
import Derived.Test.YtckhkagkpldoiaaRqC
import Derived.Test.YtckhkagkpldoiaaDvX
import Derived.Test.YtckhkagkpldoiaaEeE
import Derived.WalkKit
import Derived.Sort.CutIn
import Derived.IntWalk
namespace Go.Proofs.Ytckhkagkpldoiaa.E
open Go Go.RowKit Go.Shelf
attribute [local go_sem] Oper.semAt_some
set_option linter.unusedVariables false
set_option linter.unusedSimpArgs false

set_option maxRecDepth 100000 in
set_option maxHeartbeats 1000000 in
theorem qAcc (m : Nat) (h1 : 1 ≤ m) (gf gd g dg gm gk : Nat) (n : Int) (v : Value) (l : List Ac) (hl : l.length ≤ 1000000) (b4 : Objs) (h4 : SlE eAc [.bool false, .int .i64 0, .int .i64 0, .bool false, .int .i64 0, .bool false] 101 v l b4) : IterE m Try.prog 88 #[.pointer (some ⟨gf, 0, none⟩), .pointer (some ⟨gd, 0, none⟩)] (fun (i : Nat) => #[.int .i64 ((i : Nat) : Int), .agg #[.bool (l.getD i zAc).wr, .int .i64 (l.getD i zAc).index, .int .i64 (l.getD i zAc).at_, .bool (l.getD i zAc).drop, .int .i64 (l.getD i zAc).expo, .bool (l.getD i zAc).mark]]) ((List.range (l.length - fromN n)).map (fun k => fromN n + k)) (List.flatten [[(gf, .cells #[.int .i64 n] 3 (0, 0))], [(gd, .cells #[.pointer (some ⟨g, 0, none⟩)] 92 (0, 0))], [(g, .cells #[.pointer (some ⟨dg, 0, none⟩), .map (some gm), .map (some gk), v] 141 (0, 0))], b4]) := by
 refine iterE_of2 ?_
 intro lY JY JX WI KX NX hJ hKX hNX HY HI0
 obtain ⟨RI, HI, OW⟩ := ItL.start (Os := [[(gf, .cells #[.int .i64 n] 3 (0, 0))], [(gd, .cells #[.pointer (some ⟨g, 0, none⟩)] 92 (0, 0))], [(g, .cells #[.pointer (some ⟨dg, 0, none⟩), .map (some gm), .map (some gk), v] 141 (0, 0))], b4]) (ItL.zero HI0.out)
 clear HI0
 replace OW := Lib.hid (OwnE.cast (L' := [ob gf #[.int .i64 n] 3, ob gd #[.pointer (some ⟨g, 0, none⟩)] 92, ob g #[.pointer (some ⟨dg, 0, none⟩), .map (some gm), .map (some gk), v] 141, .c b4]) OW.out (by kernel_rfl))
 have HN := Lib.hid (fromN_eq n)
 refine callsIn_of_wp Try.func88 rfl trivial ?_ rfl
 simp only [Try.ntmps88, eF, Nat.reduceAdd, Nat.reduceSub]
 gi_upto_region 0 with fail
 refine rg (fun q1 => [.m (ld 0 (.int .i64 n)),
  .t (tv (Builtin.max_ #[3, 3] 3 #[.int .i64 n, .int .i64 0]) (fun _ => run_maxI _ _ _ _)),
  .v (.int .i64 (max n 0))]) (fun _ L => L) OW ?_
 clear OW; intro q1 _ Wq1 OW; simp only [↓pc, ↓pn, vE, Hint.val, Act.put, eL]
 gi_wp2
 gi_loopw [4] (fun z4 wr => ∃ k : Nat, k ≤ l.length - fromN n ∧ z4 = .int .i64 ((fromN n + k : Nat) : Int) ∧ ItL JY [[(gf, .cells #[.int .i64 n] 3 (0, 0))], [(gd, .cells #[.pointer (some ⟨g, 0, none⟩)] 92 (0, 0))], [(g, .cells #[.pointer (some ⟨dg, 0, none⟩), .map (some gm), .map (some gk), v] 141 (0, 0))], b4] WI [] (k) wr) (fun z4 _ => l.length - (intOf z4).toNat)
 case atStart => exact ⟨0, by omega, congrArg _ HN.out, (ItL.count (by skip; exact ItC.step (Os := [[(gf, .cells #[.int .i64 n] 3 (0, 0))], [(gd, .cells #[.pointer (some ⟨g, 0, none⟩)] 92 (0, 0))], [(g, .cells #[.pointer (some ⟨dg, 0, none⟩), .map (some gm), .map (some gk), v] 141 (0, 0))], b4]) (LE := []) HI hJ (OwnE.cast OW.out (by kernel_rfl))) (by rfl))⟩
 case round =>
  obtain ⟨k, hk2, rfl, hI⟩ := hrel
  clear OW HI
  obtain ⟨R3, HI4, OW⟩ := ItL.start (Os := [[(gf, .cells #[.int .i64 n] 3 (0, 0))], [(gd, .cells #[.pointer (some ⟨g, 0, none⟩)] 92 (0, 0))], [(g, .cells #[.pointer (some ⟨dg, 0, none⟩), .map (some gm), .map (some gk), v] 141 (0, 0))], b4]) (LE := []) (hI)
  replace OW := Lib.hid (OwnE.cast (L' := [ob gf #[.int .i64 n] 3, ob gd #[.pointer (some ⟨g, 0, none⟩)] 92, ob g #[.pointer (some ⟨dg, 0, none⟩), .map (some gm), .map (some gk), v] 141, .c b4]) OW.out (by kernel_rfl))
  clear hI
  gi_upto_region 1 with fail
  refine rg (fun q5 => [.v (.int .i64 ((fromN n + k : Nat) : Int)),
   .m (ld 1 (.pointer (some ⟨g, 0, none⟩))),
   .v (.pointer (some ⟨g, 0, none⟩)),
   .v (.pointer (some ⟨g, 3, none⟩)),
   .m (ld 2 (v)),
   .m (lenS 3 (.c b4) (cP h4)),
   .v (.bool (decide (((fromN n + k : Nat) : Int) < (l.length : Int))))]) (fun _ L => L) OW ?_
  clear OW; intro q5 _ Wq5 OW; simp only [↓pc, ↓pn, vE, Hint.val, Act.put, eL]
  cases hB6 : (decide (((fromN n + k : Nat) : Int) < (l.length : Int)))
  case true =>
   have dhB6 := of_decide_eq_true hB6
   gi_upto_region 3 with fail
   refine wpIn_region_eP 9 4 (fun q7 => [.v (.func (.yield lY) #[] #[]),
    .v (.int .i64 ((fromN n + k : Nat) : Int)),
    .m (ld 1 (.pointer (some ⟨g, 0, none⟩))),
    .v (.pointer (some ⟨g, 0, none⟩)),
    .v (.pointer (some ⟨g, 3, none⟩)),
    .m (ld 2 (v)),
    .v (.int .i64 ((fromN n + k : Nat) : Int)),
    .m (idxS 3 (.c b4) (fromN n + k) 6 (cP h4) (by omega)),
    .m (lsS (l := [.bool ((l.getD (fromN n + k) zAc).wr), .int .i64 ((l.getD (fromN n + k) zAc).index), .int .i64 ((l.getD (fromN n + k) zAc).at_), .bool ((l.getD (fromN n + k) zAc).drop), .int .i64 ((l.getD (fromN n + k) zAc).expo), .bool ((l.getD (fromN n + k) zAc).mark)]) (d := zAc) 3 (.c b4) (fromN n + k) 6 0 (cP h4) (fun _ => rfl) (by omega) (Nat.le_of_ble_eq_true rfl) (by kernel_rfl))]) (fun _ L => L) OW (fun _ => by kernel_rfl) ?_
   clear OW; intro q7 _ Wq7 OW; simp only [↓pc, ↓pn, vE, Hint.val, Act.put, eL, List.take_succ_cons, List.take_zero, List.drop_succ_cons, List.drop_zero]
   have hI8 := ItC.step (Os := [[(gf, .cells #[.int .i64 n] 3 (0, 0))], [(gd, .cells #[.pointer (some ⟨g, 0, none⟩)] 92 (0, 0))], [(g, .cells #[.pointer (some ⟨dg, 0, none⟩), .map (some gm), .map (some gk), v] 141 (0, 0))], b4]) (LE := []) HI4 hJ (OW.out)
   obtain ⟨dY, hsY, hIY⟩ := hI8
   have hg10 : ((List.range (l.length - fromN n)).map (fun k => fromN n + k))[k]? = some _ := range_map_get (by omega)
   obtain ⟨fn, tmps, assign, body, hy9, hR⟩ := HY.out dY.flatten _ _ _ hg10 hIY
   clear OW HI4
   try dsimp only at hy9
   generalize hgen11 : l.getD (fromN n + k) zAc = gen12 at hy9 ⊢
   generalize hgen13 : fromN n + k = gen14 at hy9 ⊢
   gi_wp2
   refine hR.mono ?_
   rintro e W15 (⟨rfl, hI3⟩ | ⟨rfl, Oy, hJx⟩)
   ·
    clear hy9 hR
    subst hgen11
    subst hgen13
    obtain ⟨R16, HI17, OW⟩ := ItL.start (Os := [[(gf, .cells #[.int .i64 n] 3 (0, 0))], [(gd, .cells #[.pointer (some ⟨g, 0, none⟩)] 92 (0, 0))], [(g, .cells #[.pointer (some ⟨dg, 0, none⟩), .map (some gm), .map (some gk), v] 141 (0, 0))], b4]) (LE := []) (⟨dY, hsY, hI3⟩)
    replace OW := Lib.hid (OwnE.cast (L' := [ob gf #[.int .i64 n] 3, ob gd #[.pointer (some ⟨g, 0, none⟩)] 92, ob g #[.pointer (some ⟨dg, 0, none⟩), .map (some gm), .map (some gk), v] 141, .c b4]) OW.out (by kernel_rfl))
    clear hI3
    gi_upto_region 2 with fail
    refine rg (fun q18 => [.v (.int .i64 ((fromN n + k : Nat) : Int)),
     .t (tb (a := .int .i64 ((fromN n + k : Nat) : Int)) (b := .int .i64 1) fun _ _ _ _ => bin_add_nat (a := fromN n + k) (b := 1) (by omega)),
     .v (.int .i64 (((fromN n + k) + 1 : Nat) : Int))]) (fun _ L => L) OW ?_
    clear OW; intro q18 _ Wq18 OW; simp only [↓pc, ↓pn, vE, Hint.val, Act.put, eL]
    gi_wp2
    go_roundw
    case rel => exact ⟨k + 1, by omega, by go_num, (ItL.count (by skip; exact ItC.step (Os := [[(gf, .cells #[.int .i64 n] 3 (0, 0))], [(gd, .cells #[.pointer (some ⟨g, 0, none⟩)] 92 (0, 0))], [(g, .cells #[.pointer (some ⟨dg, 0, none⟩), .map (some gm), .map (some gk), v] 141 (0, 0))], b4]) (LE := []) HI17 hJ (OwnE.pick OW.out [0, 1, 2, 3] _ (by kernel_rfl))) (by rfl))⟩
    case measure => (simp [intOf] <;> omega)
   ·
    clear hy9 hR
    subst hgen11
    subst hgen13
    have HX := Lib.hid hJx
    clear hJx
    gi_wp2
    refine bodyPost_ret (results_none rfl _ _ _) rfl ?_
    exact ⟨⟨_, rfl⟩, .inr ⟨_, (by rw [hNX.out]; exact (List.getElem?_eq_some_iff.1 hg10).1), _, HX.out⟩⟩
  have dhB6 := of_decide_eq_false hB6
  gi_wp2
  go_end0
  exact ⟨⟨_, rfl⟩, .inl (by rw [hKX.out, hNX.out]; exact ItL.leaf (ItL.count (ItC.step (Os := [[(gf, .cells #[.int .i64 n] 3 (0, 0))], [(gd, .cells #[.pointer (some ⟨g, 0, none⟩)] 92 (0, 0))], [(g, .cells #[.pointer (some ⟨dg, 0, none⟩), .map (some gm), .map (some gk), v] 141 (0, 0))], b4]) (LE := []) HI4 hJ (OW.out)) (by (rw [List.length_map, List.length_range]; omega))))⟩
set_option maxRecDepth 100000 in
set_option maxHeartbeats 1000000 in
theorem qright (r s n m c mode : Int) : Con Try.prog 56 #[.agg #[.int .i64 r, .int .i64 s, .int .i64 n, .int .i64 m, .int .i64 c], .int .i64 mode] [] [] (fun _ => []) (fun _ => .bool ((rright r s n m c) && ((mode == 1) || (mode == 2)))) := by
 refine Con.of (enters_of Try.func56 (by kernel_rfl) rfl) fun w cs HS HH OW => ?_
 refine (callsIn_wide (n := 6)).1 ?_
 refine callsIn_of_wp_marks Try.func56 rfl trivial ?_ rfl
 simp only [Try.ntmps56, eF, Nat.reduceAdd, Nat.reduceSub]
 gi_upto_region 0 with fail
 refine rg (fun q1 => [.m (bx 0),
  .v (.bool false)]) (fun q1 L => L ++ [ob ((q1 0).blk 0) #[.int .i64 r, .int .i64 s, .int .i64 n, .int .i64 m, .int .i64 c] 27]) OW ?_
 clear OW; intro q1 _ Wq1 OW; simp only [↓pc, ↓pn, vE, Hint.val, Act.put, eL]
 gi_upto_region 1 with fail
 refine rg (fun q2 => [.m (ls 0 ([.int .i64 r, .int .i64 s, .int .i64 n, .int .i64 m, .int .i64 c])),
  .c [] [] (conB (enters_of Try.func40 (by kernel_rfl) rfl) fun w' => (rright_any r s n m c _)),
  .v (.bool (rright r s n m c)),
  .v (.int .i64 mode),
  .v (.bool (mode == 1)),
  .v (.bool (mode == 1)),
  .v (.int .i64 mode),
  .v (.bool (mode == 2)),
  .k (.bool ((mode == 1) || (mode == 2))),
  .k (.bool ((rright r s n m c) && ((mode == 1) || (mode == 2)))),
  .v (.bool ((rright r s n m c) && ((mode == 1) || (mode == 2))))]) (fun _ L => L) OW ?_
 clear OW; intro q2 _ Wq2 OW; simp only [↓pc, ↓pn, vE, Hint.val, Act.put, eL]
 gi_wp2
 exact leafE HS HH OW [.t (.bool ((rright r s n m c) && ((mode == 1) || (mode == 2))))] Env.zero [] [] rfl
/-- The steps that put nothing in. -/
def calmL (ops : List Oq) : Nat → List Oq
  | 0 => []
  | k + 1 => bif (ops.getD k zOq).kind != 1 then calmL ops k ++ [ops.getD k zOq] else calmL ops k
theorem calm_len (ops : List Oq) : ∀ k, (calmL ops k).length ≤ k
  | 0 => Nat.le_refl _
  | k + 1 => by
    have := calm_len ops k
    unfold calmL
    cases (ops.getD k zOq).kind != 1
    · show (calmL ops k).length ≤ _; omega
    · show (calmL ops k ++ [_]).length ≤ _; simp; omega
theorem calm_in {ops : List Oq} (h : oqsIn ops) : ∀ k, oqsIn (calmL ops k) ∧ ∀ o ∈ calmL ops k, (o.kind == 1) = false
  | 0 => ⟨fun o ho => by simp [calmL] at ho, fun o ho => by simp [calmL] at ho⟩
  | k + 1 => by
    obtain ⟨h1, h2⟩ := calm_in h k
    unfold calmL
    cases hc : (ops.getD k zOq).kind != 1
    · exact ⟨h1, h2⟩
    · refine ⟨fun o ho => ?_, fun o ho => ?_⟩
      · rcases List.mem_append.1 (show o ∈ calmL ops k ++ [_] from ho) with ho | ho
        · exact h1 o ho
        · rw [List.mem_singleton.1 ho]; exact oqIn_at h k
      · rcases List.mem_append.1 (show o ∈ calmL ops k ++ [_] from ho) with ho | ho
        · exact h2 o ho
        · rw [List.mem_singleton.1 ho]; simpa using hc
theorem calm_q {ops : List Oq} (h : oqsIn ops) (n k : Nat) : (((calmL ops n).getD k zOq).kind == 1) = false := by
  rw [List.getD_eq_getElem?_getD]
  cases hx : (calmL ops n)[k]? with
  | none => rfl
  | some o => exact (calm_in h n).2 o (List.mem_of_getElem? hx)
theorem qq_right {r s n m c mode : Int} {l : Nat} (h : ((decide (40 < (l : Int))) || (!((rright r s n m c) && ((mode == 1) || (mode == 2))))) = false) : l ≤ 40 ∧ gright r s n m c = true ∧ rightB mode = true := by
  rw [Bool.or_eq_false_iff, Bool.not_eq_false', Bool.and_eq_true] at h
  obtain ⟨h1, h2, h3⟩ := h
  have h1 := of_decide_eq_false h1
  refine ⟨by omega, by rw [gright_eq]; exact h2, ?_⟩
  unfold rightB
  simpa using h3
theorem QR.at {V : Dv} {r s n m c mode : Int} {y : Vs} {N : Nat} (h : QR V r s n m c mode y N) {j : Nat} (hj : j < V.l.length) : (V.l.getD j zAc).at_ = (V.l.getD j zAc).index ∧ (V.l.getD j zAc).drop = false ∧ (V.l.getD j zAc).expo = 0 ∧ rhas r s n m c (V.l.getD j zAc).index = true := h.ac _ (mem_getD hj)
attribute [local irreducible] fapply ovF gat_0 gat_1 gat_2 gat_3 gat_4 gindex_0 gindex_1 dInject_0 injD wrD rdD dWrite_0 dWrite_1 dWrite_2 dRead_0 dRead_1 dRead_2 dRead_3 D0 expo putV rdV V0 wrV vput_0 vRead_0 vRead_1 getC putC rwent_0 rwent_1 rwent_2 ov11 rhas rdT wrC markT mkd qV qY qsV qsY Vs0 calmL fromN rright dLook_0 dLook_1
set_option maxRecDepth 100000 in
set_option maxHeartbeats 1000000 in
theorem qquiet (r s n m c mode : Int) (v : Value) (ops : List Oq) (hops : oqsIn ops) (bA : Objs) (h : SrE eOq v ops bA) : Con Try.prog 14 #[.agg #[.int .i64 r, .int .i64 s, .int .i64 n, .int .i64 m, .int .i64 c], .int .i64 mode, v] [.c bA] [] (fun _ => []) (fun _ => .bool true) := by
 refine Con.of (enters_of Try.func14 (by kernel_rfl) rfl) fun w cs HS HH OW => ?_
 have HCL := fun k => calm_len ops k
 have HCI := fun k => (calm_in hops k).1
 have HCQ := fun n k => calm_q hops n k
 refine (callsIn_wide (n := 6)).1 ?_
 refine callsIn_of_wp_marks Try.func14 rfl trivial ?_ rfl
 simp only [Try.ntmps14, eF, Nat.reduceAdd, Nat.reduceSub]
 gi_upto_region 0 with fail
 refine rg (fun q1 => [.m (bx 1),
  .m (al 2)]) (fun q1 L => L ++ [ob ((q1 0).blk 0) #[.int .i64 r, .int .i64 s, .int .i64 n, .int .i64 m, .int .i64 c] 27, ob ((q1 1).blk 0) #[.bool false] 4]) OW ?_
 clear OW; intro q1 _ Wq1 OW; simp only [↓pc, ↓pn, vE, Hint.val, Act.put, eL]
 gi_upto_region 1 with fail
 refine rg (fun q2 => [.c [] [] (vanchor),
  .v (.bool false)]) (fun _ L => L) OW ?_
 clear OW; intro q2 _ Wq2 OW; simp only [↓pc, ↓pn, vE, Hint.val, Act.put, eL]
 gi_upto_region 3 with fail
 refine rg (fun q3 => [.v (v),
  .m (lenR 0 (.c bA) (cP h)),
  .v (.bool (decide (40 < (ops.length : Int)))),
  .v (.bool (decide (40 < (ops.length : Int)))),
  .m (ls 1 ([.int .i64 r, .int .i64 s, .int .i64 n, .int .i64 m, .int .i64 c])),
  .v (.int .i64 mode),
  .c [] [] (qright r s n m c mode),
  .v (.bool (!((rright r s n m c) && ((mode == 1) || (mode == 2))))),
  .k (.bool ((decide (40 < (ops.length : Int))) || (!((rright r s n m c) && ((mode == 1) || (mode == 2))))))]) (fun _ L => L) OW ?_
 clear OW; intro q3 _ Wq3 OW; simp only [↓pc, ↓pn, vE, Hint.val, Act.put, eL]
 cases hB4 : ((decide (40 < (ops.length : Int))) || (!((rright r s n m c) && ((mode == 1) || (mode == 2)))))
 case true =>
  gi_upto_region 4 with fail
  refine rg (fun q5 => [.m (st 2)]) (fun q5 L => L.set 2 (ob ((q1 1).blk 0) #[.bool true] 4)) OW ?_
  clear OW; intro q5 _ Wq5 OW; simp only [↓pc, ↓pn, vE, Hint.val, Act.put, eL]
  gi_wp2
  exact leafE HS HH OW [.c (.bool true) 2] Env.zero [] [(0, 0)] (by rfl)
 gi_upto_region 5 with fail
 obtain ⟨HN40, HG, HM⟩ := qq_right hB4
 refine rg (fun q6 => [.v (.slice none 0 0)]) (fun _ L => L) OW ?_
 clear OW; intro q6 _ Wq6 OW; simp only [↓pc, ↓pn, vE, Hint.val, Act.put, eL]
 gi_upto_region 6 with fail
 refine rg (fun q7 => [.v (v),
  .m (lenR 0 (.c bA) (cP h)),
  .v (.int .i64 0)]) (fun _ L => L) OW ?_
 clear OW; intro q7 _ Wq7 OW; simp only [↓pc, ↓pn, vE, Hint.val, Act.put, eL]
 gi_wp2
 replace OW := Lib.hid (OW.out.nilS eOq zeOq 105)
 gi_loopw [30, 7] (fun z30 z7 wr => ∃ k : Nat, ∃ vS7 : Value, k ≤ ops.length ∧ z30 = .int .i64 (k : Int) ∧ vS7 = z7 ∧ OwnE (ids cs.flatten) w [.c bA, ob ((q1 0).blk 0) #[.int .i64 r, .int .i64 s, .int .i64 n, .int .i64 m, .int .i64 c] 27, ob ((q1 1).blk 0) #[.bool false] 4, slOq vS7 (calmL ops k)] wr) (fun z30 z7 _ => ops.length - (intOf (z30)).toNat)
 case atStart => exact ⟨0, .slice none 0 0, by omega, rfl, rfl, (by rw [calmL]; exact OwnE.cast OW.out (by kernel_rfl))⟩
 case round =>
  obtain ⟨k, vS7, hk9, rfl, rfl, hO⟩ := hrel
  clear OW
  have OW := Lib.hid hO
  clear hO
  gi_upto_region 7 with fail
  refine rg (fun q10 => [.v (.bool (decide ((k : Int) < (ops.length : Int))))]) (fun _ L => L) OW ?_
  clear OW; intro q10 _ Wq10 OW; simp only [↓pc, ↓pn, vE, Hint.val, Act.put, eL]
  cases hB11 : (decide ((k : Int) < (ops.length : Int)))
  case true =>
   have dhB11 := of_decide_eq_true hB11
   gi_upto_region 8 with fail
   refine rg (fun q12 => [.m (idxR 0 (.c bA) k 82 (cP h) (by omega)),
    .m (lsR (l := ([.int .i64 ((ops.getD k zOq).kind), .int .i64 ((ops.getD k zOq).index), .int .i64 ((ops.getD k zOq).fault.x0), .int .i64 ((ops.getD k zOq).fault.x1), .int .i64 ((ops.getD k zOq).fault.x2), .int .i64 ((ops.getD k zOq).fault.x3), .int .i64 ((ops.getD k zOq).fault.x4), .int .i64 ((ops.getD k zOq).fault.x5), .int .i64 ((ops.getD k zOq).fault.x6), .int .i64 ((ops.getD k zOq).fault.x7)] : List Value) ++ rB 72 ((ops.getD k zOq).raw)) (d := zOq) 0 (.c bA) k 82 0 (cP h) (fun _ => rfl) (by omega) (Nat.le_of_ble_eq_true rfl) (by kernel_rfl)),
    .m (al 4),
    .m (ss 4)]) (fun q12 L => L ++ [ob ((q12 2).blk 0) (([.int .i64 ((ops.getD k zOq).kind), .int .i64 ((ops.getD k zOq).index), .int .i64 ((ops.getD k zOq).fault.x0), .int .i64 ((ops.getD k zOq).fault.x1), .int .i64 ((ops.getD k zOq).fault.x2), .int .i64 ((ops.getD k zOq).fault.x3), .int .i64 ((ops.getD k zOq).fault.x4), .int .i64 ((ops.getD k zOq).fault.x5), .int .i64 ((ops.getD k zOq).fault.x6), .int .i64 ((ops.getD k zOq).fault.x7)] : List Value) ++ rB 72 ((ops.getD k zOq).raw)).toArray 105]) OW ?_
   clear OW; intro q12 _ Wq12 OW; simp only [↓pc, ↓pn, vE, Hint.val, Act.put, eL]
   gi_upto_region 9 with fail
   refine rg (fun q13 => [.v (.pointer (some ⟨(q12 2).blk 0, 0, none⟩)),
    .m (ld 4 (.int .i64 ((ops.getD k zOq).kind))),
    .v (.bool (((ops.getD k zOq).kind) != 1))]) (fun _ L => L) OW ?_
   clear OW; intro q13 _ Wq13 OW; simp only [↓pc, ↓pn, vE, Hint.val, Act.put, eL]
   cases hB14 : (((ops.getD k zOq).kind) != 1)
   case true =>
    have dhB14 := bne_iff_ne.1 hB14
    gi_upto_region 10 with fail
    refine rg (fun q15 => [.v (vS7),
     .m (ls 4 (([.int .i64 ((ops.getD k zOq).kind), .int .i64 ((ops.getD k zOq).index), .int .i64 ((ops.getD k zOq).fault.x0), .int .i64 ((ops.getD k zOq).fault.x1), .int .i64 ((ops.getD k zOq).fault.x2), .int .i64 ((ops.getD k zOq).fault.x3), .int .i64 ((ops.getD k zOq).fault.x4), .int .i64 ((ops.getD k zOq).fault.x5), .int .i64 ((ops.getD k zOq).fault.x6), .int .i64 ((ops.getD k zOq).fault.x7)] : List Value) ++ rB 72 ((ops.getD k zOq).raw))),
     .m (bs 5 1),
     .m (apB 3 5 slTOq (vS7) (xs := calmL ops k) (ys := [(⟨((ops.getD k zOq).kind), ((ops.getD k zOq).index), ⟨((ops.getD k zOq).fault.x0), ((ops.getD k zOq).fault.x1), ((ops.getD k zOq).fault.x2), ((ops.getD k zOq).fault.x3), ((ops.getD k zOq).fault.x4), ((ops.getD k zOq).fault.x5), ((ops.getD k zOq).fault.x6), ((ops.getD k zOq).fault.x7)⟩, (ops.getD k zOq).raw⟩ : Oq)]) h1Oq (fun _ => rfl) (by (have := HCL k; simp only [List.length_cons, List.length_nil]; omega))),
     .v ((q15 3).val 0)]) (fun q15 L => L.set 3 (slOq ((q15 3).val 0) ((calmL ops k) ++ ([(⟨((ops.getD k zOq).kind), ((ops.getD k zOq).index), ⟨((ops.getD k zOq).fault.x0), ((ops.getD k zOq).fault.x1), ((ops.getD k zOq).fault.x2), ((ops.getD k zOq).fault.x3), ((ops.getD k zOq).fault.x4), ((ops.getD k zOq).fault.x5), ((ops.getD k zOq).fault.x6), ((ops.getD k zOq).fault.x7)⟩, (ops.getD k zOq).raw⟩ : Oq)]))) ++ [ob ((q15 2).blk 0) (([.int .i64 ((ops.getD k zOq).kind), .int .i64 ((ops.getD k zOq).index), .int .i64 ((ops.getD k zOq).fault.x0), .int .i64 ((ops.getD k zOq).fault.x1), .int .i64 ((ops.getD k zOq).fault.x2), .int .i64 ((ops.getD k zOq).fault.x3), .int .i64 ((ops.getD k zOq).fault.x4), .int .i64 ((ops.getD k zOq).fault.x5), .int .i64 ((ops.getD k zOq).fault.x6), .int .i64 ((ops.getD k zOq).fault.x7)] : List Value) ++ rB 72 ((ops.getD k zOq).raw)).toArray 105]) OW ?_
    clear OW; intro q15 _ Wq15 OW; simp only [↓pc, ↓pn, vE, Hint.val, Act.put, eL]
    gi_upto_region 11 with fail
    refine rg (fun q16 => [.t (tb (a := .int .i64 (k : Int)) (b := .int .i64 1) fun _ _ _ _ => bin_add_nat (a := k) (b := 1) (by omega)),
     .v (.int .i64 ((k + 1 : Nat) : Int))]) (fun _ L => L) OW ?_
    clear OW; intro q16 _ Wq16 OW; simp only [↓pc, ↓pn, vE, Hint.val, Act.put, eL]
    gi_wp2
    go_roundw
    case rel => exact ⟨k + 1, (q15 3).val 0, by omega, by go_num, rfl, (by rw [calmL]; (repeat (first | rw [hB4] | rw [hB11] | rw [hB14] | rw [cond_true] | rw [cond_false])); exact OwnE.pick OW.out [0, 1, 2, 3] _ (by kernel_rfl))⟩
    case measure => (simp [intOf] <;> omega)
   have dhB14 := Lib.hid (eq_of_bne_false hB14)
   gi_upto_region 11 with fail
   refine rg (fun q17 => [.t (tb (a := .int .i64 (k : Int)) (b := .int .i64 1) fun _ _ _ _ => bin_add_nat (a := k) (b := 1) (by omega)),
    .v (.int .i64 ((k + 1 : Nat) : Int))]) (fun _ L => L) OW ?_
   clear OW; intro q17 _ Wq17 OW; simp only [↓pc, ↓pn, vE, Hint.val, Act.put, eL]
   gi_wp2
   go_roundw
   case rel => exact ⟨k + 1, vS7, by omega, by go_num, rfl, (by rw [calmL]; (repeat (first | rw [hB4] | rw [hB11] | rw [hB14] | rw [cond_true] | rw [cond_false])); exact OwnE.pick OW.out [0, 1, 2, 3] _ (by kernel_rfl))⟩
   case measure => (simp [intOf] <;> omega)
  have dhB11 := of_decide_eq_false hB11
  obtain rfl : ops.length = k := by omega
  gi_upto_region 12 with fail
  refine rg (fun q18 => [.m (ls 1 ([.int .i64 r, .int .i64 s, .int .i64 n, .int .i64 m, .int .i64 c])),
   .v (.int .i64 mode),
   .v (vS7),
   .c [3] [4, 5, 6, 7, 8, 9, 10, 11, 12] (Con.at (rd' := [slOq vS7 (calmL ops ops.length)]) (qplayed r s n m c mode vS7 (calmL ops ops.length) (HCI _) (HCQ _) (by have := HCL ops.length; omega) HG HM) (atW (fun _ h => SlE.sq h) (fun _ h => h))),
   .v (.tuple #[.pointer (some ⟨((q18 3).blk 0), 0, none⟩), .agg #[.int .i64 r, .int .i64 s, .int .i64 n, .int .i64 m, .int .i64 c, .int .i64 mode, ((q18 3).val 0), ((q18 3).val 1), ((q18 3).val 2), .int .i64 0, .int .i64 0, .int .i64 0, .int .i64 0, .int .i64 0, .int .i64 0, ((q18 3).val 3), ((q18 3).val 4), ((q18 3).val 5), ((q18 3).val 6), ((q18 3).val 7)], .bool true]),
   .v (.pointer (some ⟨((q18 3).blk 0), 0, none⟩)),
   .v (.agg #[.int .i64 r, .int .i64 s, .int .i64 n, .int .i64 m, .int .i64 c, .int .i64 mode, ((q18 3).val 0), ((q18 3).val 1), ((q18 3).val 2), .int .i64 0, .int .i64 0, .int .i64 0, .int .i64 0, .int .i64 0, .int .i64 0, ((q18 3).val 3), ((q18 3).val 4), ((q18 3).val 5), ((q18 3).val 6), ((q18 3).val 7)]),
   .v (.bool true),
   .m (al 13),
   .m (al 14),
   .m (st 13),
   .m (sv 14 ((q18 9).blk 0) 0 108 ([.int .i64 r, .int .i64 s, .int .i64 n, .int .i64 m, .int .i64 c, .int .i64 mode, ((q18 3).val 0), ((q18 3).val 1), ((q18 3).val 2), .int .i64 0, .int .i64 0, .int .i64 0, .int .i64 0, .int .i64 0, .int .i64 0, ((q18 3).val 3), ((q18 3).val 4), ((q18 3).val 5), ((q18 3).val 6), ((q18 3).val 7)]) #[.int .i64 0, .int .i64 0, .int .i64 0, .int .i64 0, .int .i64 0, .int .i64 0, .slice none 0 0, .slice none 0 0, .slice none 0 0, .int .i64 0, .int .i64 0, .int .i64 0, .int .i64 0, .int .i64 0, .int .i64 0, .slice none 0 0, .slice none 0 0, .slice none 0 0, .slice none 0 0, .slice none 0 0] #[.int .i64 r, .int .i64 s, .int .i64 n, .int .i64 m, .int .i64 c, .int .i64 mode, ((q18 3).val 0), ((q18 3).val 1), ((q18 3).val 2), .int .i64 0, .int .i64 0, .int .i64 0, .int .i64 0, .int .i64 0, .int .i64 0, ((q18 3).val 3), ((q18 3).val 4), ((q18 3).val 5), ((q18 3).val 6), ((q18 3).val 7)] [(5, .p (SqE eCe ((q18 3).val 0) ((qY r s n m c mode Vs0 (calmL ops ops.length) (calmL ops ops.length).length).d.cl))), (6, .p (SqE eFa ((q18 3).val 1) ((qY r s n m c mode Vs0 (calmL ops ops.length) (calmL ops ops.length).length).d.la))), (7, .p (SqE eFa ((q18 3).val 2) ((qY r s n m c mode Vs0 (calmL ops ops.length) (calmL ops ops.length).length).d.co))), (8, .p (SqE eCe ((q18 3).val 3) ((qY r s n m c mode Vs0 (calmL ops ops.length) (calmL ops ops.length).length).g.cl))), (9, .p (SqE eFa ((q18 3).val 4) ((qY r s n m c mode Vs0 (calmL ops ops.length) (calmL ops ops.length).length).g.la))), (10, .p (SqE eFa ((q18 3).val 5) ((qY r s n m c mode Vs0 (calmL ops ops.length) (calmL ops ops.length).length).g.co))), (11, .p (SqE eI ((q18 3).val 6) ((qY r s n m c mode Vs0 (calmL ops ops.length) (calmL ops ops.length).length).ma))), (12, .p (SqE eAc ((q18 3).val 7) ((qY r s n m c mode Vs0 (calmL ops ops.length) (calmL ops ops.length).length).l)))] (by kernel_rfl) (Nat.le_of_ble_eq_true rfl) (fun c5 hc5 => (oc rfl (oc rfl (oc rfl (oc rfl (oc rfl (oc rfl (oc (SqE.one (hc5 _ (.head _))) (oc (SqE.one (hc5 _ (.tail _ (.head _)))) (oc (SqE.one (hc5 _ (.tail _ (.tail _ (.head _))))) (oc rfl (oc rfl (oc rfl (oc rfl (oc rfl (oc rfl (oc (SqE.one (hc5 _ (.tail _ (.tail _ (.tail _ (.head _)))))) (oc (SqE.one (hc5 _ (.tail _ (.tail _ (.tail _ (.tail _ (.head _))))))) (oc (SqE.one (hc5 _ (.tail _ (.tail _ (.tail _ (.tail _ (.tail _ (.head _)))))))) (oc (SqE.one (hc5 _ (.tail _ (.tail _ (.tail _ (.tail _ (.tail _ (.tail _ (.head _))))))))) (oc (SqE.one (hc5 _ (.tail _ (.tail _ (.tail _ (.tail _ (.tail _ (.tail _ (.tail _ (.head _)))))))))) on0)))))))))))))))))))))),
   .v (.bool true)]) (fun q18 L => L ++ [.p (PkE (DevS (((q18 3).blk 0)) (qV (V0 r s n m c mode) (calmL ops ops.length) (calmL ops ops.length).length))), .p (SqE eCe ((q18 3).val 0) ((qY r s n m c mode Vs0 (calmL ops ops.length) (calmL ops ops.length).length).d.cl)), .p (SqE eFa ((q18 3).val 1) ((qY r s n m c mode Vs0 (calmL ops ops.length) (calmL ops ops.length).length).d.la)), .p (SqE eFa ((q18 3).val 2) ((qY r s n m c mode Vs0 (calmL ops ops.length) (calmL ops ops.length).length).d.co)), .p (SqE eCe ((q18 3).val 3) ((qY r s n m c mode Vs0 (calmL ops ops.length) (calmL ops ops.length).length).g.cl)), .p (SqE eFa ((q18 3).val 4) ((qY r s n m c mode Vs0 (calmL ops ops.length) (calmL ops ops.length).length).g.la)), .p (SqE eFa ((q18 3).val 5) ((qY r s n m c mode Vs0 (calmL ops ops.length) (calmL ops ops.length).length).g.co)), .p (SqE eI ((q18 3).val 6) ((qY r s n m c mode Vs0 (calmL ops ops.length) (calmL ops ops.length).length).ma)), .p (SqE eAc ((q18 3).val 7) ((qY r s n m c mode Vs0 (calmL ops ops.length) (calmL ops ops.length).length).l)), ob ((q18 8).blk 0) #[.pointer (some ⟨((q18 3).blk 0), 0, none⟩)] 92, ob ((q18 9).blk 0) #[.int .i64 r, .int .i64 s, .int .i64 n, .int .i64 m, .int .i64 c, .int .i64 mode, ((q18 3).val 0), ((q18 3).val 1), ((q18 3).val 2), .int .i64 0, .int .i64 0, .int .i64 0, .int .i64 0, .int .i64 0, .int .i64 0, ((q18 3).val 3), ((q18 3).val 4), ((q18 3).val 5), ((q18 3).val 6), ((q18 3).val 7)] 108]) OW ?_
  clear OW; intro q18 _ Wq18 OW; simp only [↓pc, ↓pn, vE, Hint.val, Act.put, eL]
  gi_upto_region 13 with fail
  refine rg (fun q19 => [.v (.bool true),
   .v (.bool false)]) (fun _ L => L) OW ?_
  clear OW; intro q19 _ Wq19 OW; simp only [↓pc, ↓pn, vE, Hint.val, Act.put, eL]
  gi_upto_region 15 with fail
  have HQN := ((Vs0_qr r s n m c mode).play (V0_md HM) (HCI ops.length) (calmL ops ops.length).length)
  have HQ5 := HQN.n5
  have HQC := HCL ops.length
  have HGH := fun j => (HQN.ok (by omega)).gl j
  have HLK := fun j => dLook_len HQN.rp.ok j
  obtain ⟨L4, ⟨dg, gm, gk, vl, rfl⟩, OW0⟩ := OW.out.openE (S := DevS (((q18 3).blk 0)) (qV (V0 r s n m c mode) (calmL ops ops.length) (calmL ops ops.length).length)) 4
  replace OW := Lib.hid (OwnE.cast (L' := [.c bA, ob ((q1 0).blk 0) #[.int .i64 r, .int .i64 s, .int .i64 n, .int .i64 m, .int .i64 c] 27, ob ((q1 1).blk 0) #[.bool false] 4, slOq vS7 (calmL ops ops.length), .c [], .p (SqE eCe ((q18 3).val 0) ((qY r s n m c mode Vs0 (calmL ops ops.length) (calmL ops ops.length).length).d.cl)), .p (SqE eFa ((q18 3).val 1) ((qY r s n m c mode Vs0 (calmL ops ops.length) (calmL ops ops.length).length).d.la)), .p (SqE eFa ((q18 3).val 2) ((qY r s n m c mode Vs0 (calmL ops ops.length) (calmL ops ops.length).length).d.co)), .p (SqE eCe ((q18 3).val 3) ((qY r s n m c mode Vs0 (calmL ops ops.length) (calmL ops ops.length).length).g.cl)), .p (SqE eFa ((q18 3).val 4) ((qY r s n m c mode Vs0 (calmL ops ops.length) (calmL ops ops.length).length).g.la)), .p (SqE eFa ((q18 3).val 5) ((qY r s n m c mode Vs0 (calmL ops ops.length) (calmL ops ops.length).length).g.co)), .p (SqE eI ((q18 3).val 6) ((qY r s n m c mode Vs0 (calmL ops ops.length) (calmL ops ops.length).length).ma)), .p (SqE eAc ((q18 3).val 7) ((qY r s n m c mode Vs0 (calmL ops ops.length) (calmL ops ops.length).length).l)), ob ((q18 8).blk 0) #[.pointer (some ⟨((q18 3).blk 0), 0, none⟩)] 92, ob ((q18 9).blk 0) #[.int .i64 r, .int .i64 s, .int .i64 n, .int .i64 m, .int .i64 c, .int .i64 mode, ((q18 3).val 0), ((q18 3).val 1), ((q18 3).val 2), .int .i64 0, .int .i64 0, .int .i64 0, .int .i64 0, .int .i64 0, .int .i64 0, ((q18 3).val 3), ((q18 3).val 4), ((q18 3).val 5), ((q18 3).val 6), ((q18 3).val 7)] 108, ob ((q18 3).blk 0) #[.pointer (some ⟨dg, 0, none⟩), .map (some gm), .map (some gk), vl] 141, .p (PkE (DramS dg (qV (V0 r s n m c mode) (calmL ops ops.length) (calmL ops ops.length).length).D)), mpRw ((qV (V0 r s n m c mode) (calmL ops ops.length) (calmL ops ops.length).length).ghost) gm, mpMk ((qV (V0 r s n m c mode) (calmL ops ops.length) (calmL ops ops.length).length).marks) gk, slAc vl ((qV (V0 r s n m c mode) (calmL ops ops.length) (calmL ops ops.length).length).l)]) OW0 (by kernel_rfl)); clear OW0
  refine rg (fun q20 => [.m (ld 13 (.pointer (some ⟨((q18 3).blk 0), 0, none⟩))),
   .c [] [20, 21] (vAccesses ((q18 3).blk 0) 0)]) (fun q20 L => L ++ [ob ((q20 1).blk 0) #[.int .i64 0] 3, ob ((q20 1).blk 1) #[.pointer (some ⟨((q18 3).blk 0), 0, none⟩)] 92]) OW ?_
  clear OW; intro q20 _ Wq20 OW; simp only [↓pc, ↓pn, vE, Hint.val, Act.put, eL]
  gi_wp2
  obtain ⟨bK21, hK22, OW1⟩ := OW.out.open 19 (by kernel_rfl)
  replace OW := Lib.hid (OwnE.cast (L' := [.c bA, ob ((q1 0).blk 0) #[.int .i64 r, .int .i64 s, .int .i64 n, .int .i64 m, .int .i64 c] 27, ob ((q1 1).blk 0) #[.bool false] 4, slOq vS7 (calmL ops ops.length), .c [], .p (SqE eCe ((q18 3).val 0) ((qY r s n m c mode Vs0 (calmL ops ops.length) (calmL ops ops.length).length).d.cl)), .p (SqE eFa ((q18 3).val 1) ((qY r s n m c mode Vs0 (calmL ops ops.length) (calmL ops ops.length).length).d.la)), .p (SqE eFa ((q18 3).val 2) ((qY r s n m c mode Vs0 (calmL ops ops.length) (calmL ops ops.length).length).d.co)), .p (SqE eCe ((q18 3).val 3) ((qY r s n m c mode Vs0 (calmL ops ops.length) (calmL ops ops.length).length).g.cl)), .p (SqE eFa ((q18 3).val 4) ((qY r s n m c mode Vs0 (calmL ops ops.length) (calmL ops ops.length).length).g.la)), .p (SqE eFa ((q18 3).val 5) ((qY r s n m c mode Vs0 (calmL ops ops.length) (calmL ops ops.length).length).g.co)), .p (SqE eI ((q18 3).val 6) ((qY r s n m c mode Vs0 (calmL ops ops.length) (calmL ops ops.length).length).ma)), .p (SqE eAc ((q18 3).val 7) ((qY r s n m c mode Vs0 (calmL ops ops.length) (calmL ops ops.length).length).l)), ob ((q18 8).blk 0) #[.pointer (some ⟨((q18 3).blk 0), 0, none⟩)] 92, ob ((q18 9).blk 0) #[.int .i64 r, .int .i64 s, .int .i64 n, .int .i64 m, .int .i64 c, .int .i64 mode, ((q18 3).val 0), ((q18 3).val 1), ((q18 3).val 2), .int .i64 0, .int .i64 0, .int .i64 0, .int .i64 0, .int .i64 0, .int .i64 0, ((q18 3).val 3), ((q18 3).val 4), ((q18 3).val 5), ((q18 3).val 6), ((q18 3).val 7)] 108, ob ((q18 3).blk 0) #[.pointer (some ⟨dg, 0, none⟩), .map (some gm), .map (some gk), vl] 141, .p (PkE (DramS dg (qV (V0 r s n m c mode) (calmL ops ops.length) (calmL ops ops.length).length).D)), mpRw ((qV (V0 r s n m c mode) (calmL ops ops.length) (calmL ops ops.length).length).ghost) gm, mpMk ((qV (V0 r s n m c mode) (calmL ops ops.length) (calmL ops ops.length).length).marks) gk, .c bK21, ob ((q20 1).blk 0) #[.int .i64 0] 3, ob ((q20 1).blk 1) #[.pointer (some ⟨((q18 3).blk 0), 0, none⟩)] 92]) OW1 (by kernel_rfl)); clear OW1
  refine reE_iter (n := 6) (by omega) (gf := 88) (lb := #[.pointer (some ⟨((q20 1).blk 0), 0, none⟩), .pointer (some ⟨((q20 1).blk 1), 0, none⟩)]) rfl (enters_of Try.func88 (by kernel_rfl) rfl) (encs := fun (i : Nat) => #[.int .i64 ((i : Nat) : Int), .agg #[.bool (((qV (V0 r s n m c mode) (calmL ops ops.length) (calmL ops ops.length).length).l).getD i zAc).wr, .int .i64 (((qV (V0 r s n m c mode) (calmL ops ops.length) (calmL ops ops.length).length).l).getD i zAc).index, .int .i64 (((qV (V0 r s n m c mode) (calmL ops ops.length) (calmL ops ops.length).length).l).getD i zAc).at_, .bool (((qV (V0 r s n m c mode) (calmL ops ops.length) (calmL ops ops.length).length).l).getD i zAc).drop, .int .i64 (((qV (V0 r s n m c mode) (calmL ops ops.length) (calmL ops ops.length).length).l).getD i zAc).expo, .bool (((qV (V0 r s n m c mode) (calmL ops ops.length) (calmL ops ops.length).length).l).getD i zAc).mark]]) (xs := (List.range (((qV (V0 r s n m c mode) (calmL ops ops.length) (calmL ops ops.length).length).l).length - fromN 0)).map (fun k => fromN 0 + k)) (KO := List.flatten [[(((q20 1).blk 0), .cells #[.int .i64 0] 3 (0, 0))], [(((q20 1).blk 1), .cells #[.pointer (some ⟨((q18 3).blk 0), 0, none⟩)] 92 (0, 0))], [((q18 3).blk 0, .cells #[.pointer (some ⟨dg, 0, none⟩), .map (some gm), .map (some gk), vl] 141 (0, 0))], bK21]) (qAcc (6 - 1) (by omega) ((q20 1).blk 0) ((q20 1).blk 1) ((q18 3).blk 0) dg gm gk 0 vl ((qV (V0 r s n m c mode) (calmL ops ops.length) (calmL ops ops.length).length).l) (by first | omega) bK21 hK22)
   (fun k2 Ls => k2 ≤ ((qV (V0 r s n m c mode) (calmL ops ops.length) (calmL ops ops.length).length).l).length - fromN 0 ∧ Ls = [.c bA, ob ((q1 0).blk 0) #[.int .i64 r, .int .i64 s, .int .i64 n, .int .i64 m, .int .i64 c] 27, ob ((q1 1).blk 0) #[.bool false] 4, slOq vS7 (calmL ops ops.length), .c [], .p (SqE eCe ((q18 3).val 0) ((qY r s n m c mode Vs0 (calmL ops ops.length) (calmL ops ops.length).length).d.cl)), .p (SqE eFa ((q18 3).val 1) ((qY r s n m c mode Vs0 (calmL ops ops.length) (calmL ops ops.length).length).d.la)), .p (SqE eFa ((q18 3).val 2) ((qY r s n m c mode Vs0 (calmL ops ops.length) (calmL ops ops.length).length).d.co)), .p (SqE eCe ((q18 3).val 3) ((qY r s n m c mode Vs0 (calmL ops ops.length) (calmL ops ops.length).length).g.cl)), .p (SqE eFa ((q18 3).val 4) ((qY r s n m c mode Vs0 (calmL ops ops.length) (calmL ops ops.length).length).g.la)), .p (SqE eFa ((q18 3).val 5) ((qY r s n m c mode Vs0 (calmL ops ops.length) (calmL ops ops.length).length).g.co)), .p (SqE eI ((q18 3).val 6) ((qY r s n m c mode Vs0 (calmL ops ops.length) (calmL ops ops.length).length).ma)), .p (SqE eAc ((q18 3).val 7) ((qY r s n m c mode Vs0 (calmL ops ops.length) (calmL ops ops.length).length).l)), ob ((q18 8).blk 0) #[.pointer (some ⟨((q18 3).blk 0), 0, none⟩)] 92, ob ((q18 9).blk 0) #[.int .i64 r, .int .i64 s, .int .i64 n, .int .i64 m, .int .i64 c, .int .i64 mode, ((q18 3).val 0), ((q18 3).val 1), ((q18 3).val 2), .int .i64 0, .int .i64 0, .int .i64 0, .int .i64 0, .int .i64 0, .int .i64 0, ((q18 3).val 3), ((q18 3).val 4), ((q18 3).val 5), ((q18 3).val 6), ((q18 3).val 7)] 108, ob ((q18 3).blk 0) #[.pointer (some ⟨dg, 0, none⟩), .map (some gm), .map (some gk), vl] 141, .p (PkE (DramS dg (qV (V0 r s n m c mode) (calmL ops ops.length) (calmL ops ops.length).length).D)), mpRw ((qV (V0 r s n m c mode) (calmL ops ops.length) (calmL ops ops.length).length).ghost) gm, mpMk ((qV (V0 r s n m c mode) (calmL ops ops.length) (calmL ops ops.length).length).marks) gk, .c bK21, ob ((q20 1).blk 0) #[.int .i64 0] 3, ob ((q20 1).blk 1) #[.pointer (some ⟨((q18 3).blk 0), 0, none⟩)] 92]) (fun _ _ _ => False) (Lib.hid (OwnE.cast (L' := [.c bA, ob ((q1 0).blk 0) #[.int .i64 r, .int .i64 s, .int .i64 n, .int .i64 m, .int .i64 c] 27, ob ((q1 1).blk 0) #[.bool false] 4, slOq vS7 (calmL ops ops.length), .c [], .p (SqE eCe ((q18 3).val 0) ((qY r s n m c mode Vs0 (calmL ops ops.length) (calmL ops ops.length).length).d.cl)), .p (SqE eFa ((q18 3).val 1) ((qY r s n m c mode Vs0 (calmL ops ops.length) (calmL ops ops.length).length).d.la)), .p (SqE eFa ((q18 3).val 2) ((qY r s n m c mode Vs0 (calmL ops ops.length) (calmL ops ops.length).length).d.co)), .p (SqE eCe ((q18 3).val 3) ((qY r s n m c mode Vs0 (calmL ops ops.length) (calmL ops ops.length).length).g.cl)), .p (SqE eFa ((q18 3).val 4) ((qY r s n m c mode Vs0 (calmL ops ops.length) (calmL ops ops.length).length).g.la)), .p (SqE eFa ((q18 3).val 5) ((qY r s n m c mode Vs0 (calmL ops ops.length) (calmL ops ops.length).length).g.co)), .p (SqE eI ((q18 3).val 6) ((qY r s n m c mode Vs0 (calmL ops ops.length) (calmL ops ops.length).length).ma)), .p (SqE eAc ((q18 3).val 7) ((qY r s n m c mode Vs0 (calmL ops ops.length) (calmL ops ops.length).length).l)), ob ((q18 8).blk 0) #[.pointer (some ⟨((q18 3).blk 0), 0, none⟩)] 92, ob ((q18 9).blk 0) #[.int .i64 r, .int .i64 s, .int .i64 n, .int .i64 m, .int .i64 c, .int .i64 mode, ((q18 3).val 0), ((q18 3).val 1), ((q18 3).val 2), .int .i64 0, .int .i64 0, .int .i64 0, .int .i64 0, .int .i64 0, .int .i64 0, ((q18 3).val 3), ((q18 3).val 4), ((q18 3).val 5), ((q18 3).val 6), ((q18 3).val 7)] 108, ob ((q18 3).blk 0) #[.pointer (some ⟨dg, 0, none⟩), .map (some gm), .map (some gk), vl] 141, .p (PkE (DramS dg (qV (V0 r s n m c mode) (calmL ops ops.length) (calmL ops ops.length).length).D)), mpRw ((qV (V0 r s n m c mode) (calmL ops ops.length) (calmL ops ops.length).length).ghost) gm, mpMk ((qV (V0 r s n m c mode) (calmL ops ops.length) (calmL ops ops.length).length).marks) gk, .c bK21, ob ((q20 1).blk 0) #[.int .i64 0] 3, ob ((q20 1).blk 1) #[.pointer (some ⟨((q18 3).blk 0), 0, none⟩)] 92]) OW.out (by skip; kernel_rfl))) ⟨Nat.zero_le _, rfl⟩ ?KOI23 ?KXI23 (OwnE.ndC (Os := [[(((q20 1).blk 0), .cells #[.int .i64 0] 3 (0, 0))], [(((q20 1).blk 1), .cells #[.pointer (some ⟨((q18 3).blk 0), 0, none⟩)] 92 (0, 0))], [((q18 3).blk 0, .cells #[.pointer (some ⟨dg, 0, none⟩), .map (some gm), .map (some gk), vl] 141 (0, 0))], bK21]) (OwnE.pick OW.out [20, 21, 15, 19] _ (by kernel_rfl))) (fun _ => rfl) ?roundI23 ?doneI23 ?stopI23
  case KOI23 => rintro k Ls ⟨_, rfl⟩; exact holds_at (Os := [[(((q20 1).blk 0), .cells #[.int .i64 0] 3 (0, 0))], [(((q20 1).blk 1), .cells #[.pointer (some ⟨((q18 3).blk 0), 0, none⟩)] 92 (0, 0))], [((q18 3).blk 0, .cells #[.pointer (some ⟨dg, 0, none⟩), .map (some gm), .map (some gk), vl] 141 (0, 0))], bK21]) [20, 21, 15, 19] (by kernel_rfl)
  case KXI23 => exact fun _ _ _ h => h.elim
  case roundI23 =>
   rintro lR k2 xE Ls R26 W24 hxE ⟨hk25, rfl⟩ OW
   simp only [putP0, putP1, putP2, eL]
   obtain ⟨hkb27, rfl⟩ := range_map_some hxE
   obtain ⟨qa1, qa2, qa3, qa4⟩ := HQN.at (j := fromN 0 + k2) (by omega)
   have QA1 := Lib.hid qa1
   have QA2 := Lib.hid qa2
   have QA3 := Lib.hid qa3
   have QA4 := Lib.hid qa4
   clear qa1 qa2 qa3 qa4
   gi_upto_region 16 with fail
   refine rg (fun q28 => [.m (al 22),
    .m (ss 22)]) (fun q28 L => L ++ [ob ((q28 0).blk 0) #[.bool ((((qV (V0 r s n m c mode) (calmL ops ops.length) (calmL ops ops.length).length).l).getD (fromN 0 + k2) zAc).wr), .int .i64 ((((qV (V0 r s n m c mode) (calmL ops ops.length) (calmL ops ops.length).length).l).getD (fromN 0 + k2) zAc).index), .int .i64 ((((qV (V0 r s n m c mode) (calmL ops ops.length) (calmL ops ops.length).length).l).getD (fromN 0 + k2) zAc).at_), .bool ((((qV (V0 r s n m c mode) (calmL ops ops.length) (calmL ops ops.length).length).l).getD (fromN 0 + k2) zAc).drop), .int .i64 ((((qV (V0 r s n m c mode) (calmL ops ops.length) (calmL ops ops.length).length).l).getD (fromN 0 + k2) zAc).expo), .bool ((((qV (V0 r s n m c mode) (calmL ops ops.length) (calmL ops ops.length).length).l).getD (fromN 0 + k2) zAc).mark)] 101]) OW ?_
   clear OW; intro q28 _ Wq28 OW; simp only [↓pc, ↓pn, vE, Hint.val, Act.put, eL]
   gi_wp2
   refine ⟨[.c bA, ob ((q1 0).blk 0) #[.int .i64 r, .int .i64 s, .int .i64 n, .int .i64 m, .int .i64 c] 27, ob ((q1 1).blk 0) #[.bool false] 4, slOq vS7 (calmL ops ops.length), .c [], .p (SqE eCe ((q18 3).val 0) ((qY r s n m c mode Vs0 (calmL ops ops.length) (calmL ops ops.length).length).d.cl)), .p (SqE eFa ((q18 3).val 1) ((qY r s n m c mode Vs0 (calmL ops ops.length) (calmL ops ops.length).length).d.la)), .p (SqE eFa ((q18 3).val 2) ((qY r s n m c mode Vs0 (calmL ops ops.length) (calmL ops ops.length).length).d.co)), .p (SqE eCe ((q18 3).val 3) ((qY r s n m c mode Vs0 (calmL ops ops.length) (calmL ops ops.length).length).g.cl)), .p (SqE eFa ((q18 3).val 4) ((qY r s n m c mode Vs0 (calmL ops ops.length) (calmL ops ops.length).length).g.la)), .p (SqE eFa ((q18 3).val 5) ((qY r s n m c mode Vs0 (calmL ops ops.length) (calmL ops ops.length).length).g.co)), .p (SqE eI ((q18 3).val 6) ((qY r s n m c mode Vs0 (calmL ops ops.length) (calmL ops ops.length).length).ma)), .p (SqE eAc ((q18 3).val 7) ((qY r s n m c mode Vs0 (calmL ops ops.length) (calmL ops ops.length).length).l)), ob ((q18 8).blk 0) #[.pointer (some ⟨((q18 3).blk 0), 0, none⟩)] 92, ob ((q18 9).blk 0) #[.int .i64 r, .int .i64 s, .int .i64 n, .int .i64 m, .int .i64 c, .int .i64 mode, ((q18 3).val 0), ((q18 3).val 1), ((q18 3).val 2), .int .i64 0, .int .i64 0, .int .i64 0, .int .i64 0, .int .i64 0, .int .i64 0, ((q18 3).val 3), ((q18 3).val 4), ((q18 3).val 5), ((q18 3).val 6), ((q18 3).val 7)] 108, ob ((q18 3).blk 0) #[.pointer (some ⟨dg, 0, none⟩), .map (some gm), .map (some gk), vl] 141, .p (PkE (DramS dg (qV (V0 r s n m c mode) (calmL ops ops.length) (calmL ops ops.length).length).D)), mpRw ((qV (V0 r s n m c mode) (calmL ops ops.length) (calmL ops ops.length).length).ghost) gm, mpMk ((qV (V0 r s n m c mode) (calmL ops ops.length) (calmL ops ops.length).length).marks) gk, .c bK21, ob ((q20 1).blk 0) #[.int .i64 0] 3, ob ((q20 1).blk 1) #[.pointer (some ⟨((q18 3).blk 0), 0, none⟩)] 92, ob ((q28 0).blk 0) #[.bool ((((qV (V0 r s n m c mode) (calmL ops ops.length) (calmL ops ops.length).length).l).getD (fromN 0 + k2) zAc).wr), .int .i64 ((((qV (V0 r s n m c mode) (calmL ops ops.length) (calmL ops ops.length).length).l).getD (fromN 0 + k2) zAc).index), .int .i64 ((((qV (V0 r s n m c mode) (calmL ops ops.length) (calmL ops ops.length).length).l).getD (fromN 0 + k2) zAc).at_), .bool ((((qV (V0 r s n m c mode) (calmL ops ops.length) (calmL ops ops.length).length).l).getD (fromN 0 + k2) zAc).drop), .int .i64 ((((qV (V0 r s n m c mode) (calmL ops ops.length) (calmL ops ops.length).length).l).getD (fromN 0 + k2) zAc).expo), .bool ((((qV (V0 r s n m c mode) (calmL ops ops.length) (calmL ops ops.length).length).l).getD (fromN 0 + k2) zAc).mark)] 101], OW.out, holds_at (Os := [[(((q20 1).blk 0), .cells #[.int .i64 0] 3 (0, 0))], [(((q20 1).blk 1), .cells #[.pointer (some ⟨((q18 3).blk 0), 0, none⟩)] 92 (0, 0))], [((q18 3).blk 0, .cells #[.pointer (some ⟨dg, 0, none⟩), .map (some gm), .map (some gk), vl] 141 (0, 0))], bK21]) [20, 21, 15, 19] (by kernel_rfl), ?_⟩
   clear OW; intro R30 W29 OW
   gi_upto_region 17 with fail
   refine rg (fun q31 => [.m (ls 22 ([.bool ((((qV (V0 r s n m c mode) (calmL ops ops.length) (calmL ops ops.length).length).l).getD (fromN 0 + k2) zAc).wr), .int .i64 ((((qV (V0 r s n m c mode) (calmL ops ops.length) (calmL ops ops.length).length).l).getD (fromN 0 + k2) zAc).index), .int .i64 ((((qV (V0 r s n m c mode) (calmL ops ops.length) (calmL ops ops.length).length).l).getD (fromN 0 + k2) zAc).at_), .bool ((((qV (V0 r s n m c mode) (calmL ops ops.length) (calmL ops ops.length).length).l).getD (fromN 0 + k2) zAc).drop), .int .i64 ((((qV (V0 r s n m c mode) (calmL ops ops.length) (calmL ops ops.length).length).l).getD (fromN 0 + k2) zAc).expo), .bool ((((qV (V0 r s n m c mode) (calmL ops ops.length) (calmL ops ops.length).length).l).getD (fromN 0 + k2) zAc).mark)])),
    .c [] [] (qastray (((qV (V0 r s n m c mode) (calmL ops ops.length) (calmL ops ops.length).length).l).getD (fromN 0 + k2) zAc)),
    .v (.bool ((((qV (V0 r s n m c mode) (calmL ops ops.length) (calmL ops ops.length).length).l).getD (fromN 0 + k2) zAc).drop || ((((qV (V0 r s n m c mode) (calmL ops ops.length) (calmL ops ops.length).length).l).getD (fromN 0 + k2) zAc).at_ != (((qV (V0 r s n m c mode) (calmL ops ops.length) (calmL ops ops.length).length).l).getD (fromN 0 + k2) zAc).index))),
    .v (.pointer (some ⟨(q28 0).blk 0, 4, none⟩)),
    .m (ld 22 (.int .i64 ((((qV (V0 r s n m c mode) (calmL ops ops.length) (calmL ops ops.length).length).l).getD (fromN 0 + k2) zAc).expo))),
    .v (.bool (((((qV (V0 r s n m c mode) (calmL ops ops.length) (calmL ops ops.length).length).l).getD (fromN 0 + k2) zAc).expo) != 0)),
    .k (.bool (((((qV (V0 r s n m c mode) (calmL ops ops.length) (calmL ops ops.length).length).l).getD (fromN 0 + k2) zAc).drop || ((((qV (V0 r s n m c mode) (calmL ops ops.length) (calmL ops ops.length).length).l).getD (fromN 0 + k2) zAc).at_ != (((qV (V0 r s n m c mode) (calmL ops ops.length) (calmL ops ops.length).length).l).getD (fromN 0 + k2) zAc).index)) || (((((qV (V0 r s n m c mode) (calmL ops ops.length) (calmL ops ops.length).length).l).getD (fromN 0 + k2) zAc).expo) != 0)))]) (fun _ L => L) OW ?_
   clear OW; intro q31 _ Wq31 OW; simp only [↓pc, ↓pn, vE, Hint.val, Act.put, eL]
   cases hB32 : (((((qV (V0 r s n m c mode) (calmL ops ops.length) (calmL ops ops.length).length).l).getD (fromN 0 + k2) zAc).drop || ((((qV (V0 r s n m c mode) (calmL ops ops.length) (calmL ops ops.length).length).l).getD (fromN 0 + k2) zAc).at_ != (((qV (V0 r s n m c mode) (calmL ops ops.length) (calmL ops ops.length).length).l).getD (fromN 0 + k2) zAc).index)) || (((((qV (V0 r s n m c mode) (calmL ops ops.length) (calmL ops ops.length).length).l).getD (fromN 0 + k2) zAc).expo) != 0))
   case true => exact absurd (hB32.symm.trans (show _ = false from by rw [QA1.out, QA2.out, QA3.out]; simp)) (by decide)
   case false =>
    gi_upto_region 19 with fail
    refine rg (fun q33 => [.m (ld 13 (.pointer (some ⟨((q18 3).blk 0), 0, none⟩))),
     .c [15] [] (qdram ((q18 3).blk 0) dg gm gk vl),
     .v (.pointer (some ⟨(q28 0).blk 0, 1, none⟩)),
     .m (ld 22 (.int .i64 ((((qV (V0 r s n m c mode) (calmL ops ops.length) (calmL ops ops.length).length).l).getD (fromN 0 + k2) zAc).index))),
     .c [16] [] (dLook dg ((qV (V0 r s n m c mode) (calmL ops ops.length) (calmL ops ops.length).length).D) ((((qV (V0 r s n m c mode) (calmL ops ops.length) (calmL ops ops.length).length).l).getD (fromN 0 + k2) zAc).index) HQN.rp.ok),
     .v (.tuple #[.agg (rB 72 (dLook_0 ((qV (V0 r s n m c mode) (calmL ops ops.length) (calmL ops ops.length).length).D) ((((qV (V0 r s n m c mode) (calmL ops ops.length) (calmL ops ops.length).length).l).getD (fromN 0 + k2) zAc).index))).toArray, .int .i64 (dLook_1 ((qV (V0 r s n m c mode) (calmL ops ops.length) (calmL ops ops.length).length).D) ((((qV (V0 r s n m c mode) (calmL ops ops.length) (calmL ops ops.length).length).l).getD (fromN 0 + k2) zAc).index))]),
     .v (.agg (rB 72 (dLook_0 ((qV (V0 r s n m c mode) (calmL ops ops.length) (calmL ops ops.length).length).D) ((((qV (V0 r s n m c mode) (calmL ops ops.length) (calmL ops ops.length).length).l).getD (fromN 0 + k2) zAc).index))).toArray),
     .v (.int .i64 (dLook_1 ((qV (V0 r s n m c mode) (calmL ops ops.length) (calmL ops ops.length).length).D) ((((qV (V0 r s n m c mode) (calmL ops ops.length) (calmL ops ops.length).length).l).getD (fromN 0 + k2) zAc).index))),
     .m (al 23),
     .m (ss 23),
     .v (.int .i64 (dLook_1 ((qV (V0 r s n m c mode) (calmL ops ops.length) (calmL ops ops.length).length).D) ((((qV (V0 r s n m c mode) (calmL ops ops.length) (calmL ops ops.length).length).l).getD (fromN 0 + k2) zAc).index)))]) (fun q33 L => L ++ [ob ((q33 8).blk 0) (rB 72 (dLook_0 ((qV (V0 r s n m c mode) (calmL ops ops.length) (calmL ops ops.length).length).D) ((((qV (V0 r s n m c mode) (calmL ops ops.length) (calmL ops ops.length).length).l).getD (fromN 0 + k2) zAc).index))).toArray 41]) OW ?_
    clear OW; intro q33 _ Wq33 OW; simp only [↓pc, ↓pn, vE, Hint.val, Act.put, eL]
    gi_upto_region 20 with fail
    refine rg (fun q34 => [.v (.int .i64 (dLook_1 ((qV (V0 r s n m c mode) (calmL ops ops.length) (calmL ops ops.length).length).D) ((((qV (V0 r s n m c mode) (calmL ops ops.length) (calmL ops ops.length).length).l).getD (fromN 0 + k2) zAc).index))),
     .v (.bool ((dLook_1 ((qV (V0 r s n m c mode) (calmL ops ops.length) (calmL ops ops.length).length).D) ((((qV (V0 r s n m c mode) (calmL ops ops.length) (calmL ops ops.length).length).l).getD (fromN 0 + k2) zAc).index)) != 0)),
     .v (.bool ((dLook_1 ((qV (V0 r s n m c mode) (calmL ops ops.length) (calmL ops ops.length).length).D) ((((qV (V0 r s n m c mode) (calmL ops ops.length) (calmL ops ops.length).length).l).getD (fromN 0 + k2) zAc).index)) != 0)),
     .m (ls 23 (rB 72 (dLook_0 ((qV (V0 r s n m c mode) (calmL ops ops.length) (calmL ops ops.length).length).D) ((((qV (V0 r s n m c mode) (calmL ops ops.length) (calmL ops ops.length).length).l).getD (fromN 0 + k2) zAc).index)))),
     .m (ld 13 (.pointer (some ⟨((q18 3).blk 0), 0, none⟩))),
     .v (.pointer (some ⟨(q28 0).blk 0, 1, none⟩)),
     .m (ld 22 (.int .i64 ((((qV (V0 r s n m c mode) (calmL ops ops.length) (calmL ops ops.length).length).l).getD (fromN 0 + k2) zAc).index))),
     .c [15, 17] [] (qghostP ((q18 3).blk 0) gk dg gm vl ((qV (V0 r s n m c mode) (calmL ops ops.length) (calmL ops ops.length).length).ghost) ((((qV (V0 r s n m c mode) (calmL ops ops.length) (calmL ops ops.length).length).l).getD (fromN 0 + k2) zAc).index)),
     .t (tbT 41 fun _ _ _ => bin_neT (xs := rB 72 (dLook_0 ((qV (V0 r s n m c mode) (calmL ops ops.length) (calmL ops ops.length).length).D) ((((qV (V0 r s n m c mode) (calmL ops ops.length) (calmL ops ops.length).length).l).getD (fromN 0 + k2) zAc).index))) (ys := rB 72 (((qV (V0 r s n m c mode) (calmL ops ops.length) (calmL ops ops.length).length).ghost) ((((qV (V0 r s n m c mode) (calmL ops ops.length) (calmL ops ops.length).length).l).getD (fromN 0 + k2) zAc).index))) (by kernel_rfl) (eqc_rB (show ((dLook_0 ((qV (V0 r s n m c mode) (calmL ops ops.length) (calmL ops ops.length).length).D) ((((qV (V0 r s n m c mode) (calmL ops ops.length) (calmL ops ops.length).length).l).getD (fromN 0 + k2) zAc).index))).length = 72 by first | rfl | (simp only [List.length_set, List.length_append, List.length_replicate, List.length_cons, List.length_nil, List.length_map, List.length_range, List.length_take, List.length_drop, HGH, HLK]; done) | (simp only [List.length_set, List.length_append, List.length_replicate, List.length_cons, List.length_nil, List.length_map, List.length_range, List.length_take, List.length_drop, HGH, HLK]; omega)) (show (((qV (V0 r s n m c mode) (calmL ops ops.length) (calmL ops ops.length).length).ghost) ((((qV (V0 r s n m c mode) (calmL ops ops.length) (calmL ops ops.length).length).l).getD (fromN 0 + k2) zAc).index)).length = 72 by first | rfl | (simp only [List.length_set, List.length_append, List.length_replicate, List.length_cons, List.length_nil, List.length_map, List.length_range, List.length_take, List.length_drop, HGH, HLK]; done) | (simp only [List.length_set, List.length_append, List.length_replicate, List.length_cons, List.length_nil, List.length_map, List.length_range, List.length_take, List.length_drop, HGH, HLK]; omega)))),
     .k (.bool (((dLook_1 ((qV (V0 r s n m c mode) (calmL ops ops.length) (calmL ops ops.length).length).D) ((((qV (V0 r s n m c mode) (calmL ops ops.length) (calmL ops ops.length).length).l).getD (fromN 0 + k2) zAc).index)) != 0) || (!(decide ((dLook_0 ((qV (V0 r s n m c mode) (calmL ops ops.length) (calmL ops ops.length).length).D) ((((qV (V0 r s n m c mode) (calmL ops ops.length) (calmL ops ops.length).length).l).getD (fromN 0 + k2) zAc).index)) = ((qV (V0 r s n m c mode) (calmL ops ops.length) (calmL ops ops.length).length).ghost) ((((qV (V0 r s n m c mode) (calmL ops ops.length) (calmL ops ops.length).length).l).getD (fromN 0 + k2) zAc).index))))))]) (fun _ L => L) OW ?_
    clear OW; intro q34 _ Wq34 OW; simp only [↓pc, ↓pn, vE, Hint.val, Act.put, eL]
    cases hB35 : (((dLook_1 ((qV (V0 r s n m c mode) (calmL ops ops.length) (calmL ops ops.length).length).D) ((((qV (V0 r s n m c mode) (calmL ops ops.length) (calmL ops ops.length).length).l).getD (fromN 0 + k2) zAc).index)) != 0) || (!(decide ((dLook_0 ((qV (V0 r s n m c mode) (calmL ops ops.length) (calmL ops ops.length).length).D) ((((qV (V0 r s n m c mode) (calmL ops ops.length) (calmL ops ops.length).length).l).getD (fromN 0 + k2) zAc).index)) = ((qV (V0 r s n m c mode) (calmL ops ops.length) (calmL ops ops.length).length).ghost) ((((qV (V0 r s n m c mode) (calmL ops ops.length) (calmL ops ops.length).length).l).getD (fromN 0 + k2) zAc).index)))))
    case true => exact absurd (hB35.symm.trans (show _ = false from by rw [(HQN.lk QA4.out).1, (HQN.lk QA4.out).2]; simp)) (by decide)
    case false =>
     gi_wp2
     exact NextE.mk (L' := [.c bA, ob ((q1 0).blk 0) #[.int .i64 r, .int .i64 s, .int .i64 n, .int .i64 m, .int .i64 c] 27, ob ((q1 1).blk 0) #[.bool false] 4, slOq vS7 (calmL ops ops.length), .c [], .p (SqE eCe ((q18 3).val 0) ((qY r s n m c mode Vs0 (calmL ops ops.length) (calmL ops ops.length).length).d.cl)), .p (SqE eFa ((q18 3).val 1) ((qY r s n m c mode Vs0 (calmL ops ops.length) (calmL ops ops.length).length).d.la)), .p (SqE eFa ((q18 3).val 2) ((qY r s n m c mode Vs0 (calmL ops ops.length) (calmL ops ops.length).length).d.co)), .p (SqE eCe ((q18 3).val 3) ((qY r s n m c mode Vs0 (calmL ops ops.length) (calmL ops ops.length).length).g.cl)), .p (SqE eFa ((q18 3).val 4) ((qY r s n m c mode Vs0 (calmL ops ops.length) (calmL ops ops.length).length).g.la)), .p (SqE eFa ((q18 3).val 5) ((qY r s n m c mode Vs0 (calmL ops ops.length) (calmL ops ops.length).length).g.co)), .p (SqE eI ((q18 3).val 6) ((qY r s n m c mode Vs0 (calmL ops ops.length) (calmL ops ops.length).length).ma)), .p (SqE eAc ((q18 3).val 7) ((qY r s n m c mode Vs0 (calmL ops ops.length) (calmL ops ops.length).length).l)), ob ((q18 8).blk 0) #[.pointer (some ⟨((q18 3).blk 0), 0, none⟩)] 92, ob ((q18 9).blk 0) #[.int .i64 r, .int .i64 s, .int .i64 n, .int .i64 m, .int .i64 c, .int .i64 mode, ((q18 3).val 0), ((q18 3).val 1), ((q18 3).val 2), .int .i64 0, .int .i64 0, .int .i64 0, .int .i64 0, .int .i64 0, .int .i64 0, ((q18 3).val 3), ((q18 3).val 4), ((q18 3).val 5), ((q18 3).val 6), ((q18 3).val 7)] 108, ob ((q18 3).blk 0) #[.pointer (some ⟨dg, 0, none⟩), .map (some gm), .map (some gk), vl] 141, .p (PkE (DramS dg (qV (V0 r s n m c mode) (calmL ops ops.length) (calmL ops ops.length).length).D)), mpRw ((qV (V0 r s n m c mode) (calmL ops ops.length) (calmL ops ops.length).length).ghost) gm, mpMk ((qV (V0 r s n m c mode) (calmL ops ops.length) (calmL ops ops.length).length).marks) gk, .c bK21, ob ((q20 1).blk 0) #[.int .i64 0] 3, ob ((q20 1).blk 1) #[.pointer (some ⟨((q18 3).blk 0), 0, none⟩)] 92]) OW [0, 1, 2, 3, 4, 5, 6, 7, 8, 9, 10, 11, 12, 13, 14, 15, 16, 17, 18, 19, 20, 21] ⟨by omega, rfl⟩ (by skip; kernel_rfl)
  case stopI23 =>
   rintro D c k Ls W2 hi h; exact h.elim
  case doneI23 =>
   rintro D36 Ls W37 hR OW1
   rw [show ((List.range (((qV (V0 r s n m c mode) (calmL ops ops.length) (calmL ops ops.length).length).l).length - fromN 0)).map (fun k => fromN 0 + k)).length = ((qV (V0 r s n m c mode) (calmL ops ops.length) (calmL ops ops.length).length).l).length - fromN 0 from by rw [List.length_map, List.length_range]] at hR
   obtain ⟨_, rfl⟩ := hR
   clear OW
   obtain ⟨R39, OC38, OW⟩ := Clo.markE (Clo.nil _ _) OW1.out
   clear OW1
   replace OW := Lib.hid (OwnE.cast (L' := [.c bA, ob ((q1 0).blk 0) #[.int .i64 r, .int .i64 s, .int .i64 n, .int .i64 m, .int .i64 c] 27, ob ((q1 1).blk 0) #[.bool false] 4, slOq vS7 (calmL ops ops.length), .c [], .p (SqE eCe ((q18 3).val 0) ((qY r s n m c mode Vs0 (calmL ops ops.length) (calmL ops ops.length).length).d.cl)), .p (SqE eFa ((q18 3).val 1) ((qY r s n m c mode Vs0 (calmL ops ops.length) (calmL ops ops.length).length).d.la)), .p (SqE eFa ((q18 3).val 2) ((qY r s n m c mode Vs0 (calmL ops ops.length) (calmL ops ops.length).length).d.co)), .p (SqE eCe ((q18 3).val 3) ((qY r s n m c mode Vs0 (calmL ops ops.length) (calmL ops ops.length).length).g.cl)), .p (SqE eFa ((q18 3).val 4) ((qY r s n m c mode Vs0 (calmL ops ops.length) (calmL ops ops.length).length).g.la)), .p (SqE eFa ((q18 3).val 5) ((qY r s n m c mode Vs0 (calmL ops ops.length) (calmL ops ops.length).length).g.co)), .p (SqE eI ((q18 3).val 6) ((qY r s n m c mode Vs0 (calmL ops ops.length) (calmL ops ops.length).length).ma)), .p (SqE eAc ((q18 3).val 7) ((qY r s n m c mode Vs0 (calmL ops ops.length) (calmL ops ops.length).length).l)), ob ((q18 8).blk 0) #[.pointer (some ⟨((q18 3).blk 0), 0, none⟩)] 92, ob ((q18 9).blk 0) #[.int .i64 r, .int .i64 s, .int .i64 n, .int .i64 m, .int .i64 c, .int .i64 mode, ((q18 3).val 0), ((q18 3).val 1), ((q18 3).val 2), .int .i64 0, .int .i64 0, .int .i64 0, .int .i64 0, .int .i64 0, .int .i64 0, ((q18 3).val 3), ((q18 3).val 4), ((q18 3).val 5), ((q18 3).val 6), ((q18 3).val 7)] 108, ob ((q18 3).blk 0) #[.pointer (some ⟨dg, 0, none⟩), .map (some gm), .map (some gk), vl] 141, .p (PkE (DramS dg (qV (V0 r s n m c mode) (calmL ops ops.length) (calmL ops ops.length).length).D)), mpRw ((qV (V0 r s n m c mode) (calmL ops ops.length) (calmL ops ops.length).length).ghost) gm, mpMk ((qV (V0 r s n m c mode) (calmL ops ops.length) (calmL ops ops.length).length).marks) gk, slAc vl ((qV (V0 r s n m c mode) (calmL ops ops.length) (calmL ops ops.length).length).l), ob ((q20 1).blk 0) #[.int .i64 0] 3, ob ((q20 1).blk 1) #[.pointer (some ⟨((q18 3).blk 0), 0, none⟩)] 92]) (OW.out.weak 19 (y := slAc vl ((qV (V0 r s n m c mode) (calmL ops ops.length) (calmL ops ops.length).length).l)) rfl (cP hK22)) (by kernel_rfl))
   gi_upto_region 22 with fail
   refine rg (fun q40 => [.m (st 2)]) (fun q40 L => L.set 2 (ob ((q1 1).blk 0) #[.bool true] 4)) OW ?_
   clear OW; intro q40 _ Wq40 OW; simp only [↓pc, ↓pn, vE, Hint.val, Act.put, eL]
   gi_wp2
   exact leafM HS HH OC38 OW [.c (.bool true) 2] Env.zero [] [(0, 0)] (by rfl)
end Go.Proofs.Ytckhkagkpldoiaa.E
