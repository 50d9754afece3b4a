/- DiagnoseGroups, walked (what the anchor gives is a premise here). -/
import Derived.Test.YtdglhppcfdpcaaaSoK
import Derived.Test.YtdglhppcfdpcaaaSoL
import Derived.WalkKit
import Derived.Sort.CutIn
import Derived.IntWalk
namespace Go.Proofs.Ytdglhppcfdpcaaa.E
open Go Go.RowKit Go.Shelf
attribute [local go_sem] Oper.semAt_some
set_option linter.unusedVariables false
set_option linter.unusedSimpArgs false

/-- How many of the first k have that key. -/
def fl (xs : List Int) (c : Int) (k : Nat) : Nat := ((xs.take k).filter fun x => kI x == c).length
section
variable {xs : List Int} {c : Int} {k : Nat}
theorem fl_0 : fl xs c 0 = 0 := rfl
theorem fl_take (hk : k < xs.length) : xs.take (k + 1) = xs.take k ++ [xs.getD k 0] := by
  rw [List.take_add_one, List.getElem?_eq_getElem hk, List.getD_eq_getElem?_getD, List.getElem?_eq_getElem hk]; rfl
theorem fl_t (hk : k < xs.length) (h : xs.getD k 0 % 4 = c) : fl xs c (k + 1) = fl xs c k + 1 := by
  unfold fl
  rw [fl_take hk, List.filter_append, List.length_append, List.filter_cons_of_pos (by exact beq_iff_eq.2 h)]
  rfl
theorem fl_f (hk : k < xs.length) (h : xs.getD k 0 % 4 ≠ c) : fl xs c (k + 1) = fl xs c k := by
  unfold fl
  rw [fl_take hk, List.filter_append, List.length_append, List.filter_cons_of_neg (by intro e; exact h (beq_iff_eq.1 e))]
  rfl
theorem fl_end : fl xs c xs.length = (xs.filter fun x => kI x == c).length := by unfold fl; rw [List.take_length]
theorem fl_get {zs : List Int} (hz : zs = xs.filter fun x => kI x == c) (hk : k < xs.length) (h : xs.getD k 0 % 4 = c) : fl xs c k < zs.length ∧ zs.getD (fl xs c k) 0 = xs.getD k 0 := by
  have e : zs = (xs.take k).filter (fun x => kI x == c) ++ (xs.getD k 0 :: (xs.drop (k + 1)).filter fun x => kI x == c) := by
    rw [hz]
    conv => lhs; rw [← List.take_append_drop k xs, List.filter_append, List.drop_eq_getElem_cons hk]
    have hx : xs[k] = xs.getD k 0 := by rw [List.getD_eq_getElem?_getD, List.getElem?_eq_getElem hk]; rfl
    rw [hx, List.filter_cons_of_pos (by exact beq_iff_eq.2 h)]
  have hl : fl xs c k < zs.length := by
    rw [e, List.length_append, List.length_cons]; unfold fl; omega
  refine ⟨hl, ?_⟩
  rw [List.getD_eq_getElem?_getD, e]
  unfold fl
  rw [List.getElem?_append_right (Nat.le_refl _), Nat.sub_self]
  rfl
theorem fl_le : ∀ k, fl xs c k ≤ k := fun k => by
  unfold fl
  exact Nat.le_trans (List.length_filter_le _ _) (by rw [List.length_take]; omega)
end
/-- The last key seen. -/
def gl (gs : List (Int × List Int)) : Nat → Int
  | 0 => -1
  | t + 1 => (gs.getD t (0, [])).1
theorem gl_succ {gs : List (Int × List Int)} {t : Nat} {kE : Int} {zE : List Int} (h : gs[t]? = some (kE, zE)) : gl gs (t + 1) = kE := by
  show (gs.getD t (0, [])).1 = _
  rw [List.getD_eq_getElem?_getD, h]; rfl
theorem gl_lt {xs : List Int} {t : Nat} {kE : Int} {zE : List Int} (h : (So.grp kI (So.srt kI xs))[t]? = some (kE, zE)) : gl (So.grp kI (So.srt kI xs)) t < kE := by
  cases t with
  | zero =>
    obtain ⟨_, e⟩ := So.grp_in (d := 0) (i := 0) h (So.grp_pos h)
    show -1 < kE
    have h1 : kI ((So.srt kI xs).getD (So.ga (So.grp kI (So.srt kI xs)) 0 + 0) 0) = kE := e
    unfold kI at h1
    omega
  | succ t =>
    have hlt := (List.getElem?_eq_some_iff.1 h).1
    have hq : (So.grp kI (So.srt kI xs))[t]? = some (So.grp kI (So.srt kI xs))[t] := List.getElem?_eq_getElem (by omega)
    rw [gl_succ (kE := (So.grp kI (So.srt kI xs))[t].1) (zE := (So.grp kI (So.srt kI xs))[t].2) hq]
    exact So.grp_asc 0 (So.srt_up xs) hq h
set_option maxRecDepth 100000 in
set_option maxHeartbeats 1000000 in
theorem grMkI (A : Option Addr) (nA cA : Nat) : Con Try.prog 7 #[.slice A nA cA, .func (.func 8) #[] #[]] [] [] (fun E => [ob (E.blk 0) #[.slice A nA cA] 22, ob (E.blk 1) #[.func (.func 8) #[] #[]] 27]) (fun E => .func (.func 18) #[] #[.pointer (some ⟨(E.blk 0), 0, none⟩), .pointer (some ⟨(E.blk 1), 0, none⟩)]) := by
 refine Con.of (enters_of Try.func7 (by kernel_rfl) rfl) fun w cs HS HH OW => ?_
 refine (callsIn_wide (n := 6)).1 ?_
 refine callsIn_of_wp_marks Try.func7 rfl trivial ?_ rfl
 simp only [Try.ntmps7, eF, Nat.reduceAdd, Nat.reduceSub]
 gi_upto_region 0 with fail
 refine rg (fun q1 => [.m (bx 0),
  .m (bx 1),
  .v (.nilFunc)]) (fun q1 L => L ++ [ob ((q1 0).blk 0) #[.slice A nA cA] 22, ob ((q1 1).blk 0) #[.func (.func 8) #[] #[]] 27]) OW ?_
 clear OW; intro q1 _ Wq1 OW; simp only [↓pc, ↓pn, vE, Hint.val, Act.put, eL]
 gi_upto_region 1 with fail
 refine rg (fun q2 => [.v (.func (.func 18) #[] #[.pointer (some ⟨(q1 0).blk 0, 0, none⟩), .pointer (some ⟨(q1 1).blk 0, 0, none⟩)]),
  .v (.func (.func 18) #[] #[.pointer (some ⟨(q1 0).blk 0, 0, none⟩), .pointer (some ⟨(q1 1).blk 0, 0, none⟩)])]) (fun _ L => L) OW ?_
 clear OW; intro q2 _ Wq2 OW; simp only [↓pc, ↓pn, vE, Hint.val, Act.put, eL]
 gi_wp2
 exact leafE HS HH OW [.t (.func (.func 18) #[] #[.pointer (some ⟨(q1 0).blk 0, 0, none⟩), .pointer (some ⟨(q1 1).blk 0, 0, none⟩)])] (.l [(q1 0).blk 0, (q1 1).blk 0] [] []) [0, 1] [] rfl
theorem z_fil {xs : List Int} {t : Nat} {kE : Int} {zE : List Int} (h : (So.grp kI (So.srt kI xs))[t]? = some (kE, zE)) : zE = xs.filter (fun x => kI x == kE) := So.grp_srt 0 h
theorem ga_suc {gs : List (Int × List Int)} {t : Nat} {kE : Int} {zE : List Int} (h : gs[t]? = some (kE, zE)) : So.ga gs (t + 1) = So.ga gs t + zE.length := So.ga_succ h
theorem fl_all {xs zE : List Int} {kE : Int} {k : Nat} (hz : zE = xs.filter (fun x => kI x == kE)) (hk : k = xs.length) : fl xs kE k = zE.length := by subst hk; rw [fl_end, hz]
theorem ga_ge {S : List Int} : ∀ {t : Nat}, t ≤ (So.grp kI S).length → t ≤ So.ga (So.grp kI S) t
  | 0, _ => Nat.zero_le _
  | t + 1, h => by
    have hq : (So.grp kI S)[t]? = some (So.grp kI S)[t] := List.getElem?_eq_getElem (by omega)
    have h1 := ga_ge (S := S) (t := t) (by omega)
    have h2 := So.grp_pos hq
    rw [So.ga_succ hq]
    omega
theorem ga_tot (xs : List Int) : So.ga (So.grp kI (So.srt kI xs)) (So.grp kI (So.srt kI xs)).length = xs.length := by
  rw [So.ga_all (Nat.le_refl _), So.srt_len]
theorem g_cnt (xs : List Int) : (So.grp kI (So.srt kI xs)).length ≤ xs.length := by
  have h := ga_ge (S := So.srt kI xs) (Nat.le_refl _)
  rwa [ga_tot] at h
theorem ga_b (xs : List Int) (t : Nat) : So.ga (So.grp kI (So.srt kI xs)) t ≤ xs.length := by
  have h := So.ga_le (key := kI) (S := So.srt kI xs) (t := t)
  rwa [So.srt_len] at h
theorem z_pos {xs : List Int} {t : Nat} {kE : Int} {zE : List Int} (h : (So.grp kI (So.srt kI xs))[t]? = some (kE, zE)) : 1 ≤ zE.length := So.grp_pos h
theorem z_le {xs : List Int} {t : Nat} {kE : Int} {zE : List Int} (h : (So.grp kI (So.srt kI xs))[t]? = some (kE, zE)) : zE.length ≤ xs.length := by
  rw [show zE = xs.filter (fun x => kI x == kE) from So.grp_srt 0 h]; exact List.length_filter_le _ _
attribute [local irreducible] fl gl So.grp So.srt So.ga kI
set_option maxRecDepth 100000 in
set_option maxHeartbeats 1000000 in
theorem dgroups (A : Option Addr) (nA cA : Nat) (xs : List Int) (stop : Int) (bs : Objs) (h : SrE eI (.slice A nA cA) xs bs) (HA : Hid (Con Try.prog 6 #[] [] [] (fun _ => []) (fun _ => .bool true))) : Con Try.prog 3 #[.slice A nA cA, .int .i64 stop] [.c bs] [] (fun _ => []) (fun _ => .bool true) := by
 refine Con.of (enters_of Try.func3 (by kernel_rfl) rfl) fun w cs HS HH OW => ?_
 have HGC := g_cnt xs
 refine (callsIn_wide (n := 6)).1 ?_
 refine callsIn_of_wp_marks Try.func3 rfl trivial ?_ rfl
 simp only [Try.ntmps3, eF, Nat.reduceAdd, Nat.reduceSub]
 gi_upto_region 0 with fail
 refine rg (fun q1 => [.m (bx 1),
  .m (bx 2),
  .m (al 3)]) (fun q1 L => L ++ [ob ((q1 0).blk 0) #[.slice A nA cA] 22, ob ((q1 1).blk 0) #[.int .i64 stop] 3, ob ((q1 2).blk 0) #[.bool false] 4]) OW ?_
 clear OW; intro q1 _ Wq1 OW; simp only [↓pc, ↓pn, vE, Hint.val, Act.put, eL]
 gi_upto_region 1 with fail
 refine rg (fun q2 => [.c [] [] (HA.out),
  .v (.bool false)]) (fun _ L => L) OW ?_
 clear OW; intro q2 _ Wq2 OW; simp only [↓pc, ↓pn, vE, Hint.val, Act.put, eL]
 gi_upto_region 3 with fail
 refine rg (fun q3 => [.m (ld 1 (.slice A nA cA)),
  .m (lenR 0 (.c bs) (cP h)),
  .v (.bool (decide (60 < (xs.length : Int))))]) (fun _ L => L) OW ?_
 clear OW; intro q3 _ Wq3 OW; simp only [↓pc, ↓pn, vE, Hint.val, Act.put, eL]
 cases hB4 : (decide (60 < (xs.length : Int)))
 case true =>
  have dhB4 := of_decide_eq_true hB4
  gi_upto_region 4 with fail
  refine rg (fun q5 => [.m (st 3)]) (fun q5 L => L.set 3 (ob ((q1 2).blk 0) #[.bool true] 4)) OW ?_
  clear OW; intro q5 _ Wq5 OW; simp only [↓pc, ↓pn, vE, Hint.val, Act.put, eL]
  gi_wp2
  exact leafE HS HH OW [.c (.bool true) 3] Env.zero [] [(0, 0)] (by first | rfl | (refine congrArg Value.bool ?_; rw [ga_tot, beq_self_eq_true, Bool.true_and]; first | (rw [beq_self_eq_true]; rfl) | (rw [beq_iff_eq.2 hrx0, Bool.or_true])))
 have dhB4 := of_decide_eq_false hB4
 gi_upto_region 5 with fail
 refine rg (fun q6 => [.m (al 4),
  .m (al 5),
  .m (al 6),
  .m (st 4),
  .m (st 5),
  .m (st 6)]) (fun q6 L => L ++ [ob ((q6 0).blk 0) #[.int .i64 (-1)] 3, ob ((q6 1).blk 0) #[.int .i64 0] 3, ob ((q6 2).blk 0) #[.int .i64 0] 3]) OW ?_
 clear OW; intro q6 _ Wq6 OW; simp only [↓pc, ↓pn, vE, Hint.val, Act.put, eL]
 gi_upto_region 6 with fail
 refine rg (fun q7 => [.m (ld 1 (.slice A nA cA)),
  .c [] [7, 8] (grMkI A nA cA)]) (fun q7 L => L ++ [ob ((q7 1).blk 0) #[.slice A nA cA] 22, ob ((q7 1).blk 1) #[.func (.func 8) #[] #[]] 27]) OW ?_
 clear OW; intro q7 _ Wq7 OW; simp only [↓pc, ↓pn, vE, Hint.val, Act.put, eL]
 gi_wp2
 refine reE_iterY (n := 6) (by omega) (gf := 18) (lb := #[.pointer (some ⟨((q7 1).blk 0), 0, none⟩), .pointer (some ⟨((q7 1).blk 1), 0, none⟩)]) rfl (enters_of Try.func18 (by kernel_rfl) rfl) (encs := Yd.enc (γ := Int)) (ds := fun x => x.d) (X := YdX (fun u ys => SlE eI [.int .i64 0] 3 u ys) (So.grp kI (So.srt kI xs))) (N := (So.grp kI (So.srt kI xs)).length) (KO := List.flatten [[(((q7 1).blk 0), .cells #[.slice A nA cA] 22 (0, 0))], [(((q7 1).blk 1), .cells #[.func (.func 8) #[] #[]] 27 (0, 0))], bs]) (grI1 (6 - 1) (by omega) ((q7 1).blk 0) ((q7 1).blk 1) (.slice A nA cA) xs (by omega) bs h)
  (fun t Ls => t ≤ (So.grp kI (So.srt kI xs)).length ∧ Ls = [.c bs, ob ((q1 0).blk 0) #[.slice A nA cA] 22, ob ((q1 1).blk 0) #[.int .i64 stop] 3, ob ((q1 2).blk 0) #[.bool false] 4, ob ((q6 0).blk 0) #[.int .i64 (gl (So.grp kI (So.srt kI xs)) t)] 3, ob ((q6 1).blk 0) #[.int .i64 ((So.ga (So.grp kI (So.srt kI xs)) t : Nat) : Int)] 3, ob ((q6 2).blk 0) #[.int .i64 (t : Int)] 3, ob ((q7 1).blk 0) #[.slice A nA cA] 22, ob ((q7 1).blk 1) #[.func (.func 8) #[] #[]] 27]) (fun _ _ _ => False) (Lib.hid (OwnE.cast (L' := [.c bs, ob ((q1 0).blk 0) #[.slice A nA cA] 22, ob ((q1 1).blk 0) #[.int .i64 stop] 3, ob ((q1 2).blk 0) #[.bool false] 4, ob ((q6 0).blk 0) #[.int .i64 (gl (So.grp kI (So.srt kI xs)) 0)] 3, ob ((q6 1).blk 0) #[.int .i64 ((So.ga (So.grp kI (So.srt kI xs)) 0 : Nat) : Int)] 3, ob ((q6 2).blk 0) #[.int .i64 ((0 : Nat) : Int)] 3, ob ((q7 1).blk 0) #[.slice A nA cA] 22, ob ((q7 1).blk 1) #[.func (.func 8) #[] #[]] 27]) OW.out (by skip; kernel_rfl))) ⟨Nat.zero_le _, rfl⟩ ?KOI8 ?KXI8 (OwnE.ndC (Os := [[(((q7 1).blk 0), .cells #[.slice A nA cA] 22 (0, 0))], [(((q7 1).blk 1), .cells #[.func (.func 8) #[] #[]] 27 (0, 0))], bs]) (OwnE.pick OW.out [7, 8, 0] _ (by kernel_rfl))) (fun _ => rfl) ?roundI8 ?doneI8 ?stopI8
 case KOI8 => rintro k Ls ⟨_, rfl⟩; exact holds_at (Os := [[(((q7 1).blk 0), .cells #[.slice A nA cA] 22 (0, 0))], [(((q7 1).blk 1), .cells #[.func (.func 8) #[] #[]] 27 (0, 0))], bs]) [7, 8, 0] (by kernel_rfl)
 case KXI8 => exact fun _ _ _ h => h.elim
 case roundI8 =>
  rintro lR t ⟨kE, zE, uE, dE⟩ Ls R11 W9 hxE ⟨hk10, rfl⟩ OW
  simp only [putP0, putP1, putP2, eL, Yd.enc]
  have hsE : SlE eI [.int .i64 0] 3 uE zE dE := hxE.2
  have hgE : (So.grp kI (So.srt kI xs))[t]? = some (kE, zE) := hxE.1
  clear hxE
  replace OW := Lib.hid (OwnE.cast (L' := [.c bs, ob ((q1 0).blk 0) #[.slice A nA cA] 22, ob ((q1 1).blk 0) #[.int .i64 stop] 3, ob ((q1 2).blk 0) #[.bool false] 4, ob ((q6 0).blk 0) #[.int .i64 (gl (So.grp kI (So.srt kI xs)) t)] 3, ob ((q6 1).blk 0) #[.int .i64 ((So.ga (So.grp kI (So.srt kI xs)) t : Nat) : Int)] 3, ob ((q6 2).blk 0) #[.int .i64 (t : Int)] 3, ob ((q7 1).blk 0) #[.slice A nA cA] 22, ob ((q7 1).blk 1) #[.func (.func 8) #[] #[]] 27, .c dE]) OW.out (by kernel_rfl))
  have HZP := z_pos hgE
  have HGT := (List.getElem?_eq_some_iff.1 hgE).1
  have HGB := ga_b xs t
  have HZL := z_le hgE
  have HGL := gl_lt hgE
  have HZF := Lib.hid (z_fil hgE)
  gi_upto_region 7 with fail
  refine rg (fun q12 => [.v (.int .i64 kE)]) (fun _ L => L) OW ?_
  clear OW; intro q12 _ Wq12 OW; simp only [↓pc, ↓pn, vE, Hint.val, Act.put, eL]
  gi_upto_region 8 with fail
  refine rg (fun q13 => [.v (uE)]) (fun _ L => L) OW ?_
  clear OW; intro q13 _ Wq13 OW; simp only [↓pc, ↓pn, vE, Hint.val, Act.put, eL]
  gi_wp2
  refine ⟨[.c bs, ob ((q1 0).blk 0) #[.slice A nA cA] 22, ob ((q1 1).blk 0) #[.int .i64 stop] 3, ob ((q1 2).blk 0) #[.bool false] 4, ob ((q6 0).blk 0) #[.int .i64 (gl (So.grp kI (So.srt kI xs)) t)] 3, ob ((q6 1).blk 0) #[.int .i64 ((So.ga (So.grp kI (So.srt kI xs)) t : Nat) : Int)] 3, ob ((q6 2).blk 0) #[.int .i64 (t : Int)] 3, ob ((q7 1).blk 0) #[.slice A nA cA] 22, ob ((q7 1).blk 1) #[.func (.func 8) #[] #[]] 27], OW.out, holds_at (Os := [[(((q7 1).blk 0), .cells #[.slice A nA cA] 22 (0, 0))], [(((q7 1).blk 1), .cells #[.func (.func 8) #[] #[]] 27 (0, 0))], bs]) [7, 8, 0] (by kernel_rfl), ?_⟩
  clear OW; intro R15 W14 OW
  gi_upto_region 9 with fail
  refine rg (fun q16 => [.v (.int .i64 kE),
   .m (ld 4 (.int .i64 (gl (So.grp kI (So.srt kI xs)) t))),
   .t (tk (show Value.bool (decide (kE ≤ (gl (So.grp kI (So.srt kI xs)) t))) = .bool false from congrArg Value.bool (by exact decide_eq_false (by omega)))),
   .v (.bool false),
   .v (uE),
   .m (lenR 9 (.c dE) (cP hsE.src)),
   .t (tk (show Value.bool ((zE.length : Int) == 0) = .bool false from congrArg Value.bool (by exact beq_false_of_ne (by omega)))),
   .k (.bool false)]) (fun _ L => L) OW ?_
  clear OW; intro q16 _ Wq16 OW; simp only [↓pc, ↓pn, vE, Hint.val, Act.put, eL]
  gi_upto_region 11 with fail
  refine rg (fun q17 => [.v (.int .i64 kE),
   .m (st 4)]) (fun q17 L => L.set 4 (ob ((q6 0).blk 0) #[.int .i64 kE] 3)) OW ?_
  clear OW; intro q17 _ Wq17 OW; simp only [↓pc, ↓pn, vE, Hint.val, Act.put, eL]
  gi_upto_region 12 with fail
  refine rg (fun q18 => [.m (ld 6 (.int .i64 (t : Int))),
   .t (tb (a := .int .i64 (t : Int)) (b := .int .i64 1) fun _ _ _ _ => bin_add_nat (a := t) (b := 1) (by omega)),
   .m (st 6)]) (fun q18 L => L.set 6 (ob ((q6 2).blk 0) #[.int .i64 ((t + 1 : Nat) : Int)] 3)) OW ?_
  clear OW; intro q18 _ Wq18 OW; simp only [↓pc, ↓pn, vE, Hint.val, Act.put, eL]
  gi_upto_region 13 with fail
  refine rg (fun q19 => [.v (.int .i64 0)]) (fun _ L => L) OW ?_
  clear OW; intro q19 _ Wq19 OW; simp only [↓pc, ↓pn, vE, Hint.val, Act.put, eL]
  gi_upto_region 14 with fail
  refine rg (fun q20 => [.m (ld 1 (.slice A nA cA)),
   .m (lenR 0 (.c bs) (cP h)),
   .v (.int .i64 0)]) (fun _ L => L) OW ?_
  clear OW; intro q20 _ Wq20 OW; simp only [↓pc, ↓pn, vE, Hint.val, Act.put, eL]
  gi_wp2
  gi_loopw [36, 10] (fun z36 z10 wr => ∃ k : Nat, k ≤ xs.length ∧ z36 = .int .i64 (k : Int) ∧ z10 = .int .i64 ((fl xs kE k : Nat) : Int) ∧ OwnE R15 W14 [.c bs, ob ((q1 0).blk 0) #[.slice A nA cA] 22, ob ((q1 1).blk 0) #[.int .i64 stop] 3, ob ((q1 2).blk 0) #[.bool false] 4, ob ((q6 0).blk 0) #[.int .i64 kE] 3, ob ((q6 1).blk 0) #[.int .i64 ((So.ga (So.grp kI (So.srt kI xs)) t : Nat) : Int)] 3, ob ((q6 2).blk 0) #[.int .i64 ((t + 1 : Nat) : Int)] 3, ob ((q7 1).blk 0) #[.slice A nA cA] 22, ob ((q7 1).blk 1) #[.func (.func 8) #[] #[]] 27, .c dE] wr) (fun z36 z10 _ => xs.length - (intOf (z36)).toNat)
  case atStart => exact ⟨0, by omega, rfl, congrArg (fun n : Nat => Value.int .i64 (n : Int)) fl_0.symm, (by skip; exact OwnE.cast OW.out (by kernel_rfl))⟩
  case round =>
   obtain ⟨k, hk22, rfl, rfl, hO⟩ := hrel
   clear OW
   have HFL := fl_le (xs := xs) (c := kE) k
   have OW := Lib.hid hO
   clear hO
   gi_upto_region 15 with fail
   refine rg (fun q23 => [.v (.bool (decide ((k : Int) < (xs.length : Int))))]) (fun _ L => L) OW ?_
   clear OW; intro q23 _ Wq23 OW; simp only [↓pc, ↓pn, vE, Hint.val, Act.put, eL]
   cases hB24 : (decide ((k : Int) < (xs.length : Int)))
   case true =>
    have dhB24 := of_decide_eq_true hB24
    gi_upto_region 16 with fail
    refine rg (fun q25 => [.m (idxR 0 (.c bs) k 1 (cP h) (by omega)),
     .m (ldR (u := .int .i64 (xs.getD k 0)) (d := 0) 0 (.c bs) k 1 0 (cP h) (fun _ => rfl) (by omega) (Nat.le_of_ble_eq_true rfl) (by kernel_rfl)),
     .v (.int .i64 (xs.getD k 0))]) (fun _ L => L) OW ?_
    clear OW; intro q25 _ Wq25 OW; simp only [↓pc, ↓pn, vE, Hint.val, Act.put, eL]
    gi_upto_region 17 with fail
    refine rg (fun q26 => [.v (.int .i64 (xs.getD k 0)),
     .t (tv (sBin .and 3 (.tmp 40) (.const (.int .i64 3)) (.int .i64 (xs.getD k 0)) (.int .i64 3)) (fun _ => bin_mask_i64 _ 2 4 (by decide) (by decide) (by decide) (by decide))),
     .v (.int .i64 kE),
     .v (.bool ((xs.getD k 0 % 4) != kE))]) (fun _ L => L) OW ?_
    clear OW; intro q26 _ Wq26 OW; simp only [↓pc, ↓pn, vE, Hint.val, Act.put, eL]
    cases hB27 : ((xs.getD k 0 % 4) != kE)
    case true =>
     have dhB27 := bne_iff_ne.1 hB27
     gi_upto_region 21 with fail
     refine rg (fun q28 => [.t (tb (a := .int .i64 (k : Int)) (b := .int .i64 1) fun _ _ _ _ => bin_add_nat (a := k) (b := 1) (by omega)),
      .v (.int .i64 ((k + 1 : Nat) : Int))]) (fun _ L => L) OW ?_
     clear OW; intro q28 _ Wq28 OW; simp only [↓pc, ↓pn, vE, Hint.val, Act.put, eL]
     gi_wp2
     go_roundw
     case rel => exact ⟨k + 1, by omega, by go_num, by first | exact congrArg (fun n : Nat => Value.int .i64 (n : Int)) (fl_t (by omega) (by assumption)).symm | exact congrArg (fun n : Nat => Value.int .i64 (n : Int)) (fl_f (by omega) (by assumption)).symm, (by skip; exact OwnE.pick OW.out [0, 1, 2, 3, 4, 5, 6, 7, 8, 9] _ (by kernel_rfl))⟩
     case measure => (simp [intOf] <;> omega)
    have dhB27 := Lib.hid (eq_of_bne_false hB27)
    gi_upto_region 18 with fail
    have hfg := fl_get (zs := zE) HZF.out (by omega) (eq_of_bne_false hB27)
    refine rg (fun q29 => [.v (.int .i64 ((fl xs kE k : Nat) : Int)),
     .v (uE),
     .m (lenR 9 (.c dE) (cP hsE.src)),
     .t (tk (show Value.bool (decide ((zE.length : Int) ≤ ((fl xs kE k : Nat) : Int))) = .bool false from congrArg Value.bool (by exact decide_eq_false (by omega)))),
     .v (.bool false),
     .v (uE),
     .v (.int .i64 ((fl xs kE k : Nat) : Int)),
     .m (idxR 9 (.c dE) (fl xs kE k) 1 (cP hsE.src) (by omega)),
     .m (ldR (u := .int .i64 (zE.getD (fl xs kE k) 0)) (d := 0) 9 (.c dE) (fl xs kE k) 1 0 (cP hsE.src) (fun _ => rfl) (by omega) (Nat.le_of_ble_eq_true rfl) (by kernel_rfl)),
     .v (.int .i64 (xs.getD k 0)),
     .t (tk (show Value.bool ((zE.getD (fl xs kE k) 0) != (xs.getD k 0)) = .bool false from congrArg Value.bool (by rw [hfg.2]; exact bne_self_eq_false _))),
     .k (.bool false)]) (fun _ L => L) OW ?_
    clear OW; intro q29 _ Wq29 OW; simp only [↓pc, ↓pn, vE, Hint.val, Act.put, eL]
    gi_upto_region 20 with fail
    refine rg (fun q30 => [.v (.int .i64 ((fl xs kE k : Nat) : Int)),
     .t (tb (a := .int .i64 ((fl xs kE k : Nat) : Int)) (b := .int .i64 1) fun _ _ _ _ => bin_add_nat (a := fl xs kE k) (b := 1) (by omega)),
     .v (.int .i64 (((fl xs kE k) + 1 : Nat) : Int))]) (fun _ L => L) OW ?_
    clear OW; intro q30 _ Wq30 OW; simp only [↓pc, ↓pn, vE, Hint.val, Act.put, eL]
    gi_upto_region 21 with fail
    refine rg (fun q31 => [.t (tb (a := .int .i64 (k : Int)) (b := .int .i64 1) fun _ _ _ _ => bin_add_nat (a := k) (b := 1) (by omega)),
     .v (.int .i64 ((k + 1 : Nat) : Int))]) (fun _ L => L) OW ?_
    clear OW; intro q31 _ Wq31 OW; simp only [↓pc, ↓pn, vE, Hint.val, Act.put, eL]
    gi_wp2
    go_roundw
    case rel => exact ⟨k + 1, by omega, by go_num, by first | exact congrArg (fun n : Nat => Value.int .i64 (n : Int)) (fl_t (by omega) (by assumption)).symm | exact congrArg (fun n : Nat => Value.int .i64 (n : Int)) (fl_f (by omega) (by assumption)).symm, (by skip; exact OwnE.pick OW.out [0, 1, 2, 3, 4, 5, 6, 7, 8, 9] _ (by kernel_rfl))⟩
    case measure => (simp [intOf] <;> omega)
   have dhB24 := of_decide_eq_false hB24
   obtain rfl : xs.length = k := by omega
   gi_upto_region 22 with fail
   refine rg (fun q32 => [.v (.int .i64 ((fl xs kE xs.length : Nat) : Int)),
    .v (uE),
    .m (lenR 9 (.c dE) (cP hsE.src)),
    .t (tk (show Value.bool (((fl xs kE xs.length : Nat) : Int) != (zE.length : Int)) = .bool false from congrArg Value.bool (by rw [fl_all HZF.out rfl]; exact bne_self_eq_false _)))]) (fun _ L => L) OW ?_
   clear OW; intro q32 _ Wq32 OW; simp only [↓pc, ↓pn, vE, Hint.val, Act.put, eL]
   gi_upto_region 24 with fail
   refine rg (fun q33 => [.m (ld 5 (.int .i64 ((So.ga (So.grp kI (So.srt kI xs)) t : Nat) : Int))),
    .v (.int .i64 ((fl xs kE xs.length : Nat) : Int)),
    .t (tb (a := .int .i64 ((So.ga (So.grp kI (So.srt kI xs)) t : Nat) : Int)) (b := .int .i64 ((fl xs kE xs.length : Nat) : Int)) fun _ _ _ _ => bin_add_nat (a := So.ga (So.grp kI (So.srt kI xs)) t) (b := fl xs kE xs.length) (by omega)),
    .m (st 5)]) (fun q33 L => L.set 5 (ob ((q6 1).blk 0) #[.int .i64 (((So.ga (So.grp kI (So.srt kI xs)) t) + (fl xs kE xs.length) : Nat) : Int)] 3)) OW ?_
   clear OW; intro q33 _ Wq33 OW; simp only [↓pc, ↓pn, vE, Hint.val, Act.put, eL]
   gi_wp2
   exact NextY.mk (L' := [.c bs, ob ((q1 0).blk 0) #[.slice A nA cA] 22, ob ((q1 1).blk 0) #[.int .i64 stop] 3, ob ((q1 2).blk 0) #[.bool false] 4, ob ((q6 0).blk 0) #[.int .i64 (gl (So.grp kI (So.srt kI xs)) (t + 1))] 3, ob ((q6 1).blk 0) #[.int .i64 ((So.ga (So.grp kI (So.srt kI xs)) (t + 1) : Nat) : Int)] 3, ob ((q6 2).blk 0) #[.int .i64 (((t + 1) : Nat) : Int)] 3, ob ((q7 1).blk 0) #[.slice A nA cA] 22, ob ((q7 1).blk 1) #[.func (.func 8) #[] #[]] 27]) (d := .c dE) OW [0, 1, 2, 3, 4, 5, 6, 7, 8, 9] ⟨by omega, rfl⟩ (by rw [gl_succ hgE, ga_suc hgE, ← fl_all HZF.out rfl]; kernel_rfl)
 case stopI8 =>
  rintro D c k Ls W2 hi h; exact h.elim
 case doneI8 =>
  rintro D34 Ls W35 hR OW1
  obtain ⟨_, rfl⟩ := hR
  clear OW
  obtain ⟨R37, OC36, OW⟩ := Clo.markE (Clo.nil _ _) OW1.out
  clear OW1
  gi_upto_region 25 with fail
  refine rg (fun q38 => [.m (al 9),
   .m (st 9)]) (fun q38 L => L ++ [ob ((q38 0).blk 0) #[.int .i64 0] 3]) OW ?_
  clear OW; intro q38 _ Wq38 OW; simp only [↓pc, ↓pn, vE, Hint.val, Act.put, eL]
  gi_upto_region 26 with fail
  refine rg (fun q39 => [.m (ld 1 (.slice A nA cA)),
   .c [] [10, 11] (grMkI A nA cA)]) (fun q39 L => L ++ [ob ((q39 1).blk 0) #[.slice A nA cA] 22, ob ((q39 1).blk 1) #[.func (.func 8) #[] #[]] 27]) OW ?_
  clear OW; intro q39 _ Wq39 OW; simp only [↓pc, ↓pn, vE, Hint.val, Act.put, eL]
  gi_wp2
  refine reE_iterY (n := 6) (by omega) (gf := 18) (lb := #[.pointer (some ⟨((q39 1).blk 0), 0, none⟩), .pointer (some ⟨((q39 1).blk 1), 0, none⟩)]) rfl (enters_of Try.func18 (by kernel_rfl) rfl) (encs := Yd.enc (γ := Int)) (ds := fun x => x.d) (X := YdX (fun u ys => SlE eI [.int .i64 0] 3 u ys) (So.grp kI (So.srt kI xs))) (N := (So.grp kI (So.srt kI xs)).length) (KO := List.flatten [[(((q39 1).blk 0), .cells #[.slice A nA cA] 22 (0, 0))], [(((q39 1).blk 1), .cells #[.func (.func 8) #[] #[]] 27 (0, 0))], bs]) (grI1 (6 - 1) (by omega) ((q39 1).blk 0) ((q39 1).blk 1) (.slice A nA cA) xs (by omega) bs h)
   (fun u Ls => u ≤ (So.grp kI (So.srt kI xs)).length ∧ (∀ j : Nat, 1 ≤ j → j ≤ u → ((j : Nat) : Int) ≠ stop) ∧ Ls = [.c bs, ob ((q1 0).blk 0) #[.slice A nA cA] 22, ob ((q1 1).blk 0) #[.int .i64 stop] 3, ob ((q1 2).blk 0) #[.bool false] 4, ob ((q6 0).blk 0) #[.int .i64 (gl (So.grp kI (So.srt kI xs)) ((So.grp kI (So.srt kI xs)).length))] 3, ob ((q6 1).blk 0) #[.int .i64 ((So.ga (So.grp kI (So.srt kI xs)) ((So.grp kI (So.srt kI xs)).length) : Nat) : Int)] 3, ob ((q6 2).blk 0) #[.int .i64 ((((So.grp kI (So.srt kI xs)).length) : Nat) : Int)] 3, ob ((q7 1).blk 0) #[.slice A nA cA] 22, ob ((q7 1).blk 1) #[.func (.func 8) #[] #[]] 27, ob ((q38 0).blk 0) #[.int .i64 (u : Int)] 3, ob ((q39 1).blk 0) #[.slice A nA cA] 22, ob ((q39 1).blk 1) #[.func (.func 8) #[] #[]] 27]) (fun c u Ls => (c = Code.exit 4 ∧ ((u : Nat) : Int) = stop ∧ Ls = [.c bs, ob ((q1 0).blk 0) #[.slice A nA cA] 22, ob ((q1 1).blk 0) #[.int .i64 stop] 3, ob ((q1 2).blk 0) #[.bool false] 4, ob ((q6 0).blk 0) #[.int .i64 (gl (So.grp kI (So.srt kI xs)) ((So.grp kI (So.srt kI xs)).length))] 3, ob ((q6 1).blk 0) #[.int .i64 ((So.ga (So.grp kI (So.srt kI xs)) ((So.grp kI (So.srt kI xs)).length) : Nat) : Int)] 3, ob ((q6 2).blk 0) #[.int .i64 ((((So.grp kI (So.srt kI xs)).length) : Nat) : Int)] 3, ob ((q7 1).blk 0) #[.slice A nA cA] 22, ob ((q7 1).blk 1) #[.func (.func 8) #[] #[]] 27, ob ((q38 0).blk 0) #[.int .i64 (u : Int)] 3, ob ((q39 1).blk 0) #[.slice A nA cA] 22, ob ((q39 1).blk 1) #[.func (.func 8) #[] #[]] 27])) (Lib.hid (OwnE.cast (L' := [.c bs, ob ((q1 0).blk 0) #[.slice A nA cA] 22, ob ((q1 1).blk 0) #[.int .i64 stop] 3, ob ((q1 2).blk 0) #[.bool false] 4, ob ((q6 0).blk 0) #[.int .i64 (gl (So.grp kI (So.srt kI xs)) ((So.grp kI (So.srt kI xs)).length))] 3, ob ((q6 1).blk 0) #[.int .i64 ((So.ga (So.grp kI (So.srt kI xs)) ((So.grp kI (So.srt kI xs)).length) : Nat) : Int)] 3, ob ((q6 2).blk 0) #[.int .i64 ((((So.grp kI (So.srt kI xs)).length) : Nat) : Int)] 3, ob ((q7 1).blk 0) #[.slice A nA cA] 22, ob ((q7 1).blk 1) #[.func (.func 8) #[] #[]] 27, ob ((q38 0).blk 0) #[.int .i64 ((0 : Nat) : Int)] 3, ob ((q39 1).blk 0) #[.slice A nA cA] 22, ob ((q39 1).blk 1) #[.func (.func 8) #[] #[]] 27]) OW.out (by skip; kernel_rfl))) ⟨Nat.zero_le _, fun j h1 h2 => by omega, rfl⟩ ?KOI40 ?KXI40 (OwnE.ndC (Os := [[(((q39 1).blk 0), .cells #[.slice A nA cA] 22 (0, 0))], [(((q39 1).blk 1), .cells #[.func (.func 8) #[] #[]] 27 (0, 0))], bs]) (OwnE.pick OW.out [10, 11, 0] _ (by kernel_rfl))) (fun _ => rfl) ?roundI40 ?doneI40 ?stopI40
  case KOI40 => rintro k Ls ⟨_, _, rfl⟩; exact holds_at (Os := [[(((q39 1).blk 0), .cells #[.slice A nA cA] 22 (0, 0))], [(((q39 1).blk 1), .cells #[.func (.func 8) #[] #[]] 27 (0, 0))], bs]) [10, 11, 0] (by kernel_rfl)
  case KXI40 => rintro c k Ls (⟨rfl, _, rfl⟩) <;> exact holds_at (Os := [[(((q39 1).blk 0), .cells #[.slice A nA cA] 22 (0, 0))], [(((q39 1).blk 1), .cells #[.func (.func 8) #[] #[]] 27 (0, 0))], bs]) [10, 11, 0] (by kernel_rfl)
  case roundI40 =>
   rintro lR u ⟨kE, zE, uE, dE⟩ Ls R43 W41 hxE ⟨hk42, hst, rfl⟩ OW
   simp only [putP0, putP1, putP2, eL, Yd.enc]
   have hsE : SlE eI [.int .i64 0] 3 uE zE dE := hxE.2
   have hgE : (So.grp kI (So.srt kI xs))[u]? = some (kE, zE) := hxE.1
   clear hxE
   replace OW := Lib.hid (OwnE.cast (L' := [.c bs, ob ((q1 0).blk 0) #[.slice A nA cA] 22, ob ((q1 1).blk 0) #[.int .i64 stop] 3, ob ((q1 2).blk 0) #[.bool false] 4, ob ((q6 0).blk 0) #[.int .i64 (gl (So.grp kI (So.srt kI xs)) ((So.grp kI (So.srt kI xs)).length))] 3, ob ((q6 1).blk 0) #[.int .i64 ((So.ga (So.grp kI (So.srt kI xs)) ((So.grp kI (So.srt kI xs)).length) : Nat) : Int)] 3, ob ((q6 2).blk 0) #[.int .i64 ((((So.grp kI (So.srt kI xs)).length) : Nat) : Int)] 3, ob ((q7 1).blk 0) #[.slice A nA cA] 22, ob ((q7 1).blk 1) #[.func (.func 8) #[] #[]] 27, ob ((q38 0).blk 0) #[.int .i64 (u : Int)] 3, ob ((q39 1).blk 0) #[.slice A nA cA] 22, ob ((q39 1).blk 1) #[.func (.func 8) #[] #[]] 27, .c dE]) OW.out (by kernel_rfl))
   have HST := Lib.hid hst
   clear hst
   have HGT := (List.getElem?_eq_some_iff.1 hgE).1
   gi_wp2
   refine ⟨[.c bs, ob ((q1 0).blk 0) #[.slice A nA cA] 22, ob ((q1 1).blk 0) #[.int .i64 stop] 3, ob ((q1 2).blk 0) #[.bool false] 4, ob ((q6 0).blk 0) #[.int .i64 (gl (So.grp kI (So.srt kI xs)) ((So.grp kI (So.srt kI xs)).length))] 3, ob ((q6 1).blk 0) #[.int .i64 ((So.ga (So.grp kI (So.srt kI xs)) ((So.grp kI (So.srt kI xs)).length) : Nat) : Int)] 3, ob ((q6 2).blk 0) #[.int .i64 ((((So.grp kI (So.srt kI xs)).length) : Nat) : Int)] 3, ob ((q7 1).blk 0) #[.slice A nA cA] 22, ob ((q7 1).blk 1) #[.func (.func 8) #[] #[]] 27, ob ((q38 0).blk 0) #[.int .i64 (u : Int)] 3, ob ((q39 1).blk 0) #[.slice A nA cA] 22, ob ((q39 1).blk 1) #[.func (.func 8) #[] #[]] 27], OW.out, holds_at (Os := [[(((q39 1).blk 0), .cells #[.slice A nA cA] 22 (0, 0))], [(((q39 1).blk 1), .cells #[.func (.func 8) #[] #[]] 27 (0, 0))], bs]) [10, 11, 0] (by kernel_rfl), ?_⟩
   clear OW; intro R45 W44 OW
   gi_upto_region 27 with fail
   refine rg (fun q46 => [.m (ld 9 (.int .i64 (u : Int))),
    .t (tb (a := .int .i64 (u : Int)) (b := .int .i64 1) fun _ _ _ _ => bin_add_nat (a := u) (b := 1) (by omega)),
    .m (st 9)]) (fun q46 L => L.set 9 (ob ((q38 0).blk 0) #[.int .i64 ((u + 1 : Nat) : Int)] 3)) OW ?_
   clear OW; intro q46 _ Wq46 OW; simp only [↓pc, ↓pn, vE, Hint.val, Act.put, eL]
   gi_upto_region 28 with fail
   refine rg (fun q47 => [.m (ld 9 (.int .i64 ((u + 1 : Nat) : Int))),
    .m (ld 2 (.int .i64 stop)),
    .v (.bool (((u + 1 : Nat) : Int) == stop))]) (fun _ L => L) OW ?_
   clear OW; intro q47 _ Wq47 OW; simp only [↓pc, ↓pn, vE, Hint.val, Act.put, eL]
   cases hB48 : (((u + 1 : Nat) : Int) == stop)
   case true =>
    have dhB48 := Lib.hid (eq_of_beq hB48)
    gi_wp2
    exact NextY.mk (L' := [.c bs, ob ((q1 0).blk 0) #[.slice A nA cA] 22, ob ((q1 1).blk 0) #[.int .i64 stop] 3, ob ((q1 2).blk 0) #[.bool false] 4, ob ((q6 0).blk 0) #[.int .i64 (gl (So.grp kI (So.srt kI xs)) ((So.grp kI (So.srt kI xs)).length))] 3, ob ((q6 1).blk 0) #[.int .i64 ((So.ga (So.grp kI (So.srt kI xs)) ((So.grp kI (So.srt kI xs)).length) : Nat) : Int)] 3, ob ((q6 2).blk 0) #[.int .i64 ((((So.grp kI (So.srt kI xs)).length) : Nat) : Int)] 3, ob ((q7 1).blk 0) #[.slice A nA cA] 22, ob ((q7 1).blk 1) #[.func (.func 8) #[] #[]] 27, ob ((q38 0).blk 0) #[.int .i64 (((u + 1) : Nat) : Int)] 3, ob ((q39 1).blk 0) #[.slice A nA cA] 22, ob ((q39 1).blk 1) #[.func (.func 8) #[] #[]] 27]) (d := .c dE) OW [0, 1, 2, 3, 4, 5, 6, 7, 8, 9, 10, 11, 12] (⟨rfl, (eq_of_beq (by assumption)), rfl⟩) (by kernel_rfl)
   have dhB48 := ne_of_beq_false hB48
   gi_wp2
   exact NextY.mk (L' := [.c bs, ob ((q1 0).blk 0) #[.slice A nA cA] 22, ob ((q1 1).blk 0) #[.int .i64 stop] 3, ob ((q1 2).blk 0) #[.bool false] 4, ob ((q6 0).blk 0) #[.int .i64 (gl (So.grp kI (So.srt kI xs)) ((So.grp kI (So.srt kI xs)).length))] 3, ob ((q6 1).blk 0) #[.int .i64 ((So.ga (So.grp kI (So.srt kI xs)) ((So.grp kI (So.srt kI xs)).length) : Nat) : Int)] 3, ob ((q6 2).blk 0) #[.int .i64 ((((So.grp kI (So.srt kI xs)).length) : Nat) : Int)] 3, ob ((q7 1).blk 0) #[.slice A nA cA] 22, ob ((q7 1).blk 1) #[.func (.func 8) #[] #[]] 27, ob ((q38 0).blk 0) #[.int .i64 (((u + 1) : Nat) : Int)] 3, ob ((q39 1).blk 0) #[.slice A nA cA] 22, ob ((q39 1).blk 1) #[.func (.func 8) #[] #[]] 27]) (d := .c dE) OW [0, 1, 2, 3, 4, 5, 6, 7, 8, 9, 10, 11, 12] ⟨by omega, fun j h1 h2 => (Nat.lt_or_ge u j).elim (fun h3 => by obtain rfl : j = u + 1 := (by omega); exact ne_of_beq_false (by assumption)) (fun h3 => HST.out j h1 h3), rfl⟩ (by skip; kernel_rfl)
  case stopI40 =>
   rintro D49 c u Ls W50 hi (⟨rfl, hrx0, rfl⟩) OW1
   clear OW
   obtain ⟨R52, OC51, OW⟩ := Clo.markE OC36.out OW1.out
   clear OW1 OC36
   gi_upto_region 29 with fail
   refine rg (fun q53 => [.m (ld 5 (.int .i64 ((So.ga (So.grp kI (So.srt kI xs)) ((So.grp kI (So.srt kI xs)).length) : Nat) : Int))),
    .m (ld 1 (.slice A nA cA)),
    .m (lenR 0 (.c bs) (cP h)),
    .v (.bool (((So.ga (So.grp kI (So.srt kI xs)) ((So.grp kI (So.srt kI xs)).length) : Nat) : Int) == (xs.length : Int))),
    .v (.bool (((So.ga (So.grp kI (So.srt kI xs)) ((So.grp kI (So.srt kI xs)).length) : Nat) : Int) == (xs.length : Int))),
    .m (ld 9 (.int .i64 (((u + 1) : Nat) : Int))),
    .m (ld 6 (.int .i64 ((((So.grp kI (So.srt kI xs)).length) : Nat) : Int))),
    .v (.bool ((((u + 1) : Nat) : Int) == ((((So.grp kI (So.srt kI xs)).length) : Nat) : Int))),
    .v (.bool ((((u + 1) : Nat) : Int) == ((((So.grp kI (So.srt kI xs)).length) : Nat) : Int))),
    .m (ld 9 (.int .i64 (((u + 1) : Nat) : Int))),
    .m (ld 2 (.int .i64 stop)),
    .v (.bool ((((u + 1) : Nat) : Int) == stop)),
    .k (.bool (((((u + 1) : Nat) : Int) == ((((So.grp kI (So.srt kI xs)).length) : Nat) : Int)) || ((((u + 1) : Nat) : Int) == stop))),
    .k (.bool ((((So.ga (So.grp kI (So.srt kI xs)) ((So.grp kI (So.srt kI xs)).length) : Nat) : Int) == (xs.length : Int)) && (((((u + 1) : Nat) : Int) == ((((So.grp kI (So.srt kI xs)).length) : Nat) : Int)) || ((((u + 1) : Nat) : Int) == stop)))),
    .m (st 3)]) (fun q53 L => L.set 3 (ob ((q1 2).blk 0) #[.bool ((((So.ga (So.grp kI (So.srt kI xs)) ((So.grp kI (So.srt kI xs)).length) : Nat) : Int) == (xs.length : Int)) && (((((u + 1) : Nat) : Int) == ((((So.grp kI (So.srt kI xs)).length) : Nat) : Int)) || ((((u + 1) : Nat) : Int) == stop)))] 4)) OW ?_
   clear OW; intro q53 _ Wq53 OW; simp only [↓pc, ↓pn, vE, Hint.val, Act.put, eL]
   gi_wp2
   exact leafM HS HH OC51 OW [.c (.bool ((((So.ga (So.grp kI (So.srt kI xs)) ((So.grp kI (So.srt kI xs)).length) : Nat) : Int) == (xs.length : Int)) && (((((u + 1) : Nat) : Int) == ((((So.grp kI (So.srt kI xs)).length) : Nat) : Int)) || ((((u + 1) : Nat) : Int) == stop)))) 3] Env.zero [] [(0, 0)] (by first | rfl | (refine congrArg Value.bool ?_; rw [ga_tot, beq_self_eq_true, Bool.true_and]; first | (rw [beq_self_eq_true]; rfl) | (rw [beq_iff_eq.2 hrx0, Bool.or_true])))
  case doneI40 =>
   rintro D54 Ls W55 hR OW1
   obtain ⟨_, hst, rfl⟩ := hR
   have HST := Lib.hid hst
   clear hst
   clear OW
   obtain ⟨R57, OC56, OW⟩ := Clo.markE OC36.out OW1.out
   clear OW1 OC36
   gi_upto_region 29 with fail
   refine rg (fun q58 => [.m (ld 5 (.int .i64 ((So.ga (So.grp kI (So.srt kI xs)) ((So.grp kI (So.srt kI xs)).length) : Nat) : Int))),
    .m (ld 1 (.slice A nA cA)),
    .m (lenR 0 (.c bs) (cP h)),
    .v (.bool (((So.ga (So.grp kI (So.srt kI xs)) ((So.grp kI (So.srt kI xs)).length) : Nat) : Int) == (xs.length : Int))),
    .v (.bool (((So.ga (So.grp kI (So.srt kI xs)) ((So.grp kI (So.srt kI xs)).length) : Nat) : Int) == (xs.length : Int))),
    .m (ld 9 (.int .i64 ((((So.grp kI (So.srt kI xs)).length) : Nat) : Int))),
    .m (ld 6 (.int .i64 ((((So.grp kI (So.srt kI xs)).length) : Nat) : Int))),
    .v (.bool (((((So.grp kI (So.srt kI xs)).length) : Nat) : Int) == ((((So.grp kI (So.srt kI xs)).length) : Nat) : Int))),
    .v (.bool (((((So.grp kI (So.srt kI xs)).length) : Nat) : Int) == ((((So.grp kI (So.srt kI xs)).length) : Nat) : Int))),
    .m (ld 9 (.int .i64 ((((So.grp kI (So.srt kI xs)).length) : Nat) : Int))),
    .m (ld 2 (.int .i64 stop)),
    .v (.bool (((((So.grp kI (So.srt kI xs)).length) : Nat) : Int) == stop)),
    .k (.bool ((((((So.grp kI (So.srt kI xs)).length) : Nat) : Int) == ((((So.grp kI (So.srt kI xs)).length) : Nat) : Int)) || (((((So.grp kI (So.srt kI xs)).length) : Nat) : Int) == stop))),
    .k (.bool ((((So.ga (So.grp kI (So.srt kI xs)) ((So.grp kI (So.srt kI xs)).length) : Nat) : Int) == (xs.length : Int)) && ((((((So.grp kI (So.srt kI xs)).length) : Nat) : Int) == ((((So.grp kI (So.srt kI xs)).length) : Nat) : Int)) || (((((So.grp kI (So.srt kI xs)).length) : Nat) : Int) == stop)))),
    .m (st 3)]) (fun q58 L => L.set 3 (ob ((q1 2).blk 0) #[.bool ((((So.ga (So.grp kI (So.srt kI xs)) ((So.grp kI (So.srt kI xs)).length) : Nat) : Int) == (xs.length : Int)) && ((((((So.grp kI (So.srt kI xs)).length) : Nat) : Int) == ((((So.grp kI (So.srt kI xs)).length) : Nat) : Int)) || (((((So.grp kI (So.srt kI xs)).length) : Nat) : Int) == stop)))] 4)) OW ?_
   clear OW; intro q58 _ Wq58 OW; simp only [↓pc, ↓pn, vE, Hint.val, Act.put, eL]
   gi_wp2
   exact leafM HS HH OC56 OW [.c (.bool ((((So.ga (So.grp kI (So.srt kI xs)) ((So.grp kI (So.srt kI xs)).length) : Nat) : Int) == (xs.length : Int)) && ((((((So.grp kI (So.srt kI xs)).length) : Nat) : Int) == ((((So.grp kI (So.srt kI xs)).length) : Nat) : Int)) || (((((So.grp kI (So.srt kI xs)).length) : Nat) : Int) == stop)))) 3] Env.zero [] [(0, 0)] (by first | rfl | (refine congrArg Value.bool ?_; rw [ga_tot, beq_self_eq_true, Bool.true_and]; first | (rw [beq_self_eq_true]; rfl) | (rw [beq_iff_eq.2 hrx0, Bool.or_true])))
end Go.Proofs.Ytdglhppcfdpcaaa.E
