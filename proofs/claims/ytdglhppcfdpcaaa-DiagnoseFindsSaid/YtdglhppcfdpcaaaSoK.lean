/- diagnose.Groups over ints: what it yields. -/
import Derived.Test.YtdglhppcfdpcaaaSoI
import Derived.Test.YtdglhppcfdpcaaaSoJ
import Derived.WalkKit
import Derived.Sort.CutIn
import Derived.IntWalk
namespace Go.Proofs.Ytdglhppcfdpcaaa.E
open Go Go.RowKit Go.Shelf
attribute [local go_sem] Oper.semAt_some
set_option linter.unusedVariables false
set_option linter.unusedSimpArgs false

/-- A slice's length. -/
def lenV : Value → Nat
  | .slice _ n _ => n
  | _ => 0
theorem lenV_lt {R : List Nat} {base W : World} {L : Ents} {u : Value} {ys : List Int} {j : Nat} (h : OwnE R base L W) (p : Nat) (hp : L[p]? = some (.p (SqE eI u ys))) (h1 : 0 < j) (h2 : j ≤ ys.length) : lenV (sbV u j ys.length 1) < lenV u := by
  obtain ⟨cs, hs, _⟩ := h.conc
  obtain ⟨_, a, r, rfl⟩ := satL_get hs hp
  show ys.length - j < ys.length
  omega
section
variable {S : List Int} {t n : Nat} {p : Int × List Int}
theorem gt_lt (h : 0 < (S.drop (So.ga (So.grp kI S) t)).length) : t < (So.grp kI S).length := by
  rw [List.length_drop] at h
  exact So.ga_lt.1 (by omega)
theorem gt_end (h1 : t ≤ (So.grp kI S).length) (h : (S.drop (So.ga (So.grp kI S) t)).length ≤ 0) : t = (So.grp kI S).length := by
  rw [List.length_drop] at h
  have := (So.ga_lt (key := kI) (S := S) (t := t)).2
  omega
theorem getD_drop (S : List Int) (l n : Nat) : (S.drop l).getD n 0 = S.getD (l + n) 0 := by
  rw [List.getD_eq_getElem?_getD, List.getD_eq_getElem?_getD, List.getElem?_drop]
theorem g_pos (h : (So.grp kI S)[t]? = some p) : 1 ≤ p.2.length := List.length_pos_iff.2 (So.grp_all S p (List.mem_of_getElem? h)).1
theorem g_key (h : (So.grp kI S)[t]? = some p) : (S.drop (So.ga (So.grp kI S) t)).getD 0 0 % 4 = p.1 := by
  rw [getD_drop]
  exact (So.grp_in (d := 0) h (g_pos h)).2
theorem g_step (h : (So.grp kI S)[t]? = some p) (hn : n ≤ p.2.length) (h1 : n < (S.drop (So.ga (So.grp kI S) t)).length) (h2 : (S.drop (So.ga (So.grp kI S) t)).getD n 0 % 4 = (S.drop (So.ga (So.grp kI S) t)).getD 0 0 % 4) : n + 1 ≤ p.2.length := by
  rw [g_key h, getD_drop] at h2
  rw [List.length_drop] at h1
  rcases Nat.lt_or_ge n p.2.length with h3 | h3
  · exact h3
  · obtain rfl : n = p.2.length := by omega
    exact absurd h2 (So.grp_out (d := 0) h (by omega))
theorem g_stop (h : (So.grp kI S)[t]? = some p) (hn : n ≤ p.2.length) (h1 : ¬ n < (S.drop (So.ga (So.grp kI S) t)).length ∨ (S.drop (So.ga (So.grp kI S) t)).getD n 0 % 4 ≠ (S.drop (So.ga (So.grp kI S) t)).getD 0 0 % 4) : n = p.2.length := by
  rcases Nat.lt_or_ge n p.2.length with h3 | h3
  · obtain ⟨h4, h5⟩ := So.grp_in (d := 0) h h3
    rw [g_key h, getD_drop, List.length_drop] at h1
    rcases h1 with h1 | h1
    · omega
    · exact absurd h5 h1
  · omega
theorem g_len (h : (So.grp kI S)[t]? = some p) : p.2.length ≤ (S.drop (So.ga (So.grp kI S) t)).length := by
  have h3 := g_pos h
  obtain ⟨h4, _⟩ := So.grp_in (d := 0) (i := p.2.length - 1) h (by omega)
  rw [List.length_drop]
  omega
theorem g_get (h : (So.grp kI S)[t]? = some p) (hn : n = p.2.length) : (So.grp kI S)[t]? = some ((S.drop (So.ga (So.grp kI S) t)).getD 0 0 % 4, (S.drop (So.ga (So.grp kI S) t)).take n) := by
  rw [g_key h, hn, So.grp_seg h]; exact h
theorem g_next (h : (So.grp kI S)[t]? = some p) (hn : n = p.2.length) : (S.drop (So.ga (So.grp kI S) t)).drop n = S.drop (So.ga (So.grp kI S) (t + 1)) := by
  rw [List.drop_drop, So.ga_succ h, hn]
theorem g_some (h : t < (So.grp kI S).length) : ∃ p, (So.grp kI S)[t]? = some p := ⟨_, List.getElem?_eq_getElem h⟩
end
theorem drop_ga0 (S : List Int) : S.drop (So.ga (So.grp kI S) 0) = S := rfl
attribute [local irreducible] So.sg So.srt So.grp So.ga kI
set_option maxRecDepth 100000 in
set_option maxHeartbeats 1000000 in
theorem grI1 (m : Nat) (h1 : 1 ≤ m) (g1 g2 : Nat) (v : Value) (xs : List Int) (hx : xs.length ≤ 1000000) (bs : Objs) (h : SrE eI v xs bs) : IterYE m Try.prog 18 #[.pointer (some ⟨g1, 0, none⟩), .pointer (some ⟨g2, 0, none⟩)] (Yd.enc (γ := Int)) (fun x => x.d) (YdX (fun u ys => SlE eI [.int .i64 0] 3 u ys) (So.grp kI (So.srt kI xs))) (So.grp kI (So.srt kI xs)).length (List.flatten [[(g1, .cells #[v] 22 (0, 0))], [(g2, .cells #[.func (.func 8) #[] #[]] 27 (0, 0))], bs]) := by
 refine iterY_of ?_
 intro lY JY JX WI KX NX hJ hKX hNX HY HI0
 obtain ⟨RI, HI, OW⟩ := ItL.start (Os := [[(g1, .cells #[v] 22 (0, 0))], [(g2, .cells #[.func (.func 8) #[] #[]] 27 (0, 0))], bs]) (ItL.zero HI0.out)
 clear HI0
 replace OW := Lib.hid (OwnE.cast (L' := [ob g1 #[v] 22, ob g2 #[.func (.func 8) #[] #[]] 27, .c bs]) OW.out (by kernel_rfl))
 have HSL := Nat.le_of_eq (So.srt_len (key := kI) xs)
 have HSD := fun t => (show ((So.srt kI xs).drop (So.ga (So.grp kI (So.srt kI xs)) t)).length ≤ 1000000 from by rw [List.length_drop]; omega)
 refine callsIn_of_wp Try.func18 rfl trivial ?_ rfl
 simp only [Try.ntmps18, eF, Nat.reduceAdd, Nat.reduceSub]
 gi_upto_region 0 with fail
 refine rg (fun q1 => [.m (ld 0 (v)),
  .c [2] [3] (clBI v xs (by omega) bs h),
  .v ((q1 1).val 0)]) (fun q1 L => L ++ [slI ((q1 1).val 0) xs]) OW ?_
 clear OW; intro q1 _ Wq1 OW; simp only [↓pc, ↓pn, vE, Hint.val, Act.put, eL]
 gi_upto_region 1 with fail
 refine rg (fun q2 => [.v ((q1 1).val 0),
  .v (.func (.func 21) #[] #[.pointer (some ⟨g2, 0, none⟩)]),
  .c [3, 1] [3] (sosrt ((q1 1).val 0) xs g2 (by omega))]) (fun q2 L => L.set 3 (slI ((q1 1).val 0) (So.srt kI xs))) OW ?_
 clear OW; intro q2 _ Wq2 OW; simp only [↓pc, ↓pn, vE, Hint.val, Act.put, eL]
 gi_wp2
 replace OW := Lib.hid (OwnE.cast (L' := [ob g1 #[v] 22, ob g2 #[.func (.func 8) #[] #[]] 27, .c bs, .p (SqE eI ((q1 1).val 0) (So.srt kI xs))]) (OW.out.weak 3 (y := .p (SqE eI ((q1 1).val 0) (So.srt kI xs))) rfl (fun _ h => SlE.sq h)) (by kernel_rfl))
 gi_loopw [4] (fun z4 wr => ∃ t : Nat, ∃ vS4 : Value, t ≤ (So.grp kI (So.srt kI xs)).length ∧ vS4 = z4 ∧ ItL JY [[(g1, .cells #[v] 22 (0, 0))], [(g2, .cells #[.func (.func 8) #[] #[]] 27 (0, 0))], bs] WI [.p (SqE eI vS4 ((So.srt kI xs).drop (So.ga (So.grp kI (So.srt kI xs)) t)))] (t) wr) (fun z4 _ => lenV z4)
 case atStart => exact ⟨0, (q1 1).val 0, by omega, rfl, (ItL.count (by skip; exact ItC.step (Os := [[(g1, .cells #[v] 22 (0, 0))], [(g2, .cells #[.func (.func 8) #[] #[]] 27 (0, 0))], bs]) (LE := [.p (SqE eI ((q1 1).val 0) ((So.srt kI xs).drop (So.ga (So.grp kI (So.srt kI xs)) 0)))]) HI hJ (OwnE.cast OW.out (by kernel_rfl))) (by rfl))⟩
 case round =>
  obtain ⟨t, vS4, hk3, rfl, hI⟩ := hrel
  clear OW HI
  have HSD1 := HSD t
  obtain ⟨R4, HI5, OW⟩ := ItL.start (Os := [[(g1, .cells #[v] 22 (0, 0))], [(g2, .cells #[.func (.func 8) #[] #[]] 27 (0, 0))], bs]) (LE := [.p (SqE eI vS4 ((So.srt kI xs).drop (So.ga (So.grp kI (So.srt kI xs)) t)))]) (hI)
  replace OW := Lib.hid (OwnE.cast (L' := [ob g1 #[v] 22, ob g2 #[.func (.func 8) #[] #[]] 27, .c bs, .p (SqE eI vS4 ((So.srt kI xs).drop (So.ga (So.grp kI (So.srt kI xs)) t)))]) OW.out (by kernel_rfl))
  clear hI
  gi_upto_region 2 with fail
  refine rg (fun q6 => [.v (vS4),
   .m (lenR 3 (.p (SqE eI vS4 ((So.srt kI xs).drop (So.ga (So.grp kI (So.srt kI xs)) t)))) (fun _ h => h.1)),
   .v (.bool (decide (0 < ((((So.srt kI xs).drop (So.ga (So.grp kI (So.srt kI xs)) t)).length : Nat) : Int))))]) (fun _ L => L) OW ?_
  clear OW; intro q6 _ Wq6 OW; simp only [↓pc, ↓pn, vE, Hint.val, Act.put, eL]
  cases hB7 : (decide (0 < ((((So.srt kI xs).drop (So.ga (So.grp kI (So.srt kI xs)) t)).length : Nat) : Int)))
  case true =>
   have dhB7 := of_decide_eq_true hB7
   gi_upto_region 3 with fail
   obtain ⟨p, hpt⟩ := g_some (gt_lt (S := So.srt kI xs) (t := t) (by omega))
   have HGT := gt_lt (S := So.srt kI xs) (t := t) (by omega)
   have HPT := Lib.hid hpt
   have HPL := g_len hpt
   have HPP := g_pos hpt
   clear hpt
   refine rg (fun q8 => [.m (ld 1 (.func (.func 8) #[] #[])),
    .v (vS4),
    .m (idxR 3 (.p (SqE eI vS4 ((So.srt kI xs).drop (So.ga (So.grp kI (So.srt kI xs)) t)))) 0 1 (fun _ h => h.1) (by omega)),
    .m (ldR (u := .int .i64 (((So.srt kI xs).drop (So.ga (So.grp kI (So.srt kI xs)) t)).getD 0 0)) (d := 0) 3 (.p (SqE eI vS4 ((So.srt kI xs).drop (So.ga (So.grp kI (So.srt kI xs)) t)))) 0 1 0 (fun _ h => h.1) (fun _ => rfl) (by omega) (Nat.le_of_ble_eq_true rfl) (by kernel_rfl)),
    .c [] [] (klow (((So.srt kI xs).drop (So.ga (So.grp kI (So.srt kI xs)) t)).getD 0 0)),
    .v (.int .i64 ((((So.srt kI xs).drop (So.ga (So.grp kI (So.srt kI xs)) t)).getD 0 0) % 4)),
    .v (.int .i64 1)]) (fun _ L => L) OW ?_
   clear OW; intro q8 _ Wq8 OW; simp only [↓pc, ↓pn, vE, Hint.val, Act.put, eL]
   gi_wp2
   gi_loopw [6] (fun z6 wr => ∃ i : Nat, i ≤ ((So.srt kI xs).drop (So.ga (So.grp kI (So.srt kI xs)) t)).length ∧ z6 = .int .i64 ((1 + i : Nat) : Int) ∧ (1 + i ≤ p.2.length) ∧ ItL JY [[(g1, .cells #[v] 22 (0, 0))], [(g2, .cells #[.func (.func 8) #[] #[]] 27 (0, 0))], bs] WI [.p (SqE eI vS4 ((So.srt kI xs).drop (So.ga (So.grp kI (So.srt kI xs)) t)))] (t) wr) (fun z6 _ => 1000002 - (intOf z6).toNat)
   case atStart => exact ⟨0, by omega, rfl, HPP, (ItL.count (by skip; exact ItC.step (Os := [[(g1, .cells #[v] 22 (0, 0))], [(g2, .cells #[.func (.func 8) #[] #[]] 27 (0, 0))], bs]) (LE := [.p (SqE eI vS4 ((So.srt kI xs).drop (So.ga (So.grp kI (So.srt kI xs)) t)))]) HI5 hJ (OwnE.cast OW.out (by kernel_rfl))) (by rfl))⟩
   case round =>
    obtain ⟨i, hk9, rfl, hin, hI⟩ := hrel
    clear OW HI5
    have HIN := Lib.hid hin
    clear hin
    obtain ⟨R10, HI11, OW⟩ := ItL.start (Os := [[(g1, .cells #[v] 22 (0, 0))], [(g2, .cells #[.func (.func 8) #[] #[]] 27 (0, 0))], bs]) (LE := [.p (SqE eI vS4 ((So.srt kI xs).drop (So.ga (So.grp kI (So.srt kI xs)) t)))]) (hI)
    replace OW := Lib.hid (OwnE.cast (L' := [ob g1 #[v] 22, ob g2 #[.func (.func 8) #[] #[]] 27, .c bs, .p (SqE eI vS4 ((So.srt kI xs).drop (So.ga (So.grp kI (So.srt kI xs)) t)))]) OW.out (by kernel_rfl))
    clear hI
    gi_upto_region 4 with fail
    cases hB12 : (decide (((1 + i : Nat) : Int) < ((((So.srt kI xs).drop (So.ga (So.grp kI (So.srt kI xs)) t)).length : Nat) : Int)))
    case true =>
     have dhB12 := of_decide_eq_true hB12
     gi_upto_region 4 with fail
     refine rg (fun q13 => [.v (.int .i64 ((1 + i : Nat) : Int)),
      .v (vS4),
      .m (lenR 3 (.p (SqE eI vS4 ((So.srt kI xs).drop (So.ga (So.grp kI (So.srt kI xs)) t)))) (fun _ h => h.1)),
      .t (tk (show Value.bool (decide (((1 + i : Nat) : Int) < ((((So.srt kI xs).drop (So.ga (So.grp kI (So.srt kI xs)) t)).length : Nat) : Int))) = .bool true from congrArg Value.bool hB12)),
      .v (.bool true),
      .m (ld 1 (.func (.func 8) #[] #[])),
      .v (vS4),
      .v (.int .i64 ((1 + i : Nat) : Int)),
      .m (idxR 3 (.p (SqE eI vS4 ((So.srt kI xs).drop (So.ga (So.grp kI (So.srt kI xs)) t)))) (1 + i) 1 (fun _ h => h.1) (by omega)),
      .m (ldR (u := .int .i64 (((So.srt kI xs).drop (So.ga (So.grp kI (So.srt kI xs)) t)).getD (1 + i) 0)) (d := 0) 3 (.p (SqE eI vS4 ((So.srt kI xs).drop (So.ga (So.grp kI (So.srt kI xs)) t)))) (1 + i) 1 0 (fun _ h => h.1) (fun _ => rfl) (by omega) (Nat.le_of_ble_eq_true rfl) (by kernel_rfl)),
      .c [] [] (klow (((So.srt kI xs).drop (So.ga (So.grp kI (So.srt kI xs)) t)).getD (1 + i) 0)),
      .v (.int .i64 ((((So.srt kI xs).drop (So.ga (So.grp kI (So.srt kI xs)) t)).getD 0 0) % 4)),
      .v (.bool (((((So.srt kI xs).drop (So.ga (So.grp kI (So.srt kI xs)) t)).getD (1 + i) 0) % 4) == ((((So.srt kI xs).drop (So.ga (So.grp kI (So.srt kI xs)) t)).getD 0 0) % 4))),
      .k (.bool (((((So.srt kI xs).drop (So.ga (So.grp kI (So.srt kI xs)) t)).getD (1 + i) 0) % 4) == ((((So.srt kI xs).drop (So.ga (So.grp kI (So.srt kI xs)) t)).getD 0 0) % 4)))]) (fun _ L => L) OW ?_
     clear OW; intro q13 _ Wq13 OW; simp only [↓pc, ↓pn, vE, Hint.val, Act.put, eL]
     cases hB14 : (((((So.srt kI xs).drop (So.ga (So.grp kI (So.srt kI xs)) t)).getD (1 + i) 0) % 4) == ((((So.srt kI xs).drop (So.ga (So.grp kI (So.srt kI xs)) t)).getD 0 0) % 4))
     case true =>
      have dhB14 := Lib.hid (eq_of_beq hB14)
      gi_upto_region 5 with fail
      refine rg (fun q15 => [.v (.int .i64 ((1 + i : Nat) : Int)),
       .t (tb (a := .int .i64 ((1 + i : Nat) : Int)) (b := .int .i64 1) fun _ _ _ _ => bin_add_nat (a := 1 + i) (b := 1) (by omega)),
       .v (.int .i64 (((1 + i) + 1 : Nat) : Int))]) (fun _ L => L) OW ?_
      clear OW; intro q15 _ Wq15 OW; simp only [↓pc, ↓pn, vE, Hint.val, Act.put, eL]
      gi_wp2
      go_roundw
      case rel => exact ⟨i + 1, by omega, rfl, g_step (n := 1 + i) HPT.out HIN.out (by omega) (eq_of_beq (by assumption)), (ItL.count (by skip; exact ItC.step (Os := [[(g1, .cells #[v] 22 (0, 0))], [(g2, .cells #[.func (.func 8) #[] #[]] 27 (0, 0))], bs]) (LE := [.p (SqE eI vS4 ((So.srt kI xs).drop (So.ga (So.grp kI (So.srt kI xs)) t)))]) HI11 hJ (OwnE.pick OW.out [0, 1, 2, 3] _ (by kernel_rfl))) (by rfl))⟩
      case measure => (simp [intOf] <;> omega)
     have dhB14 := ne_of_beq_false hB14
     gi_upto_region 6 with fail
     have HNE := Lib.hid (g_stop (n := 1 + i) HPT.out HIN.out (by first | exact .inl (by omega) | exact .inr (ne_of_beq_false (by assumption))))
     have hne1 := Nat.le_of_eq HNE.out
     refine wpIn_region_eP 6 5 (fun q16 => [.v (.func (.yield lY) #[] #[]),
      .v (.int .i64 ((((So.srt kI xs).drop (So.ga (So.grp kI (So.srt kI xs)) t)).getD 0 0) % 4)),
      .v (vS4),
      .v (.int .i64 ((1 + i : Nat) : Int)),
      .m (slH 3 (.p (SqE eI vS4 ((So.srt kI xs).drop (So.ga (So.grp kI (So.srt kI xs)) t)))) (1 + i) 1 (fun _ h => h) (by omega)),
      .c [3] [4] (clHQ vS4 ((So.srt kI xs).drop (So.ga (So.grp kI (So.srt kI xs)) t)) (by omega) (1 + i) (by omega))]) (fun q16 L => L ++ [slI ((q16 5).val 0) (((So.srt kI xs).drop (So.ga (So.grp kI (So.srt kI xs)) t)).take (1 + i))]) OW (fun _ => by kernel_rfl) ?_
     clear OW; intro q16 _ Wq16 OW; simp only [↓pc, ↓pn, vE, Hint.val, Act.put, eL, List.take_succ_cons, List.take_zero, List.drop_succ_cons, List.drop_zero]
     have hI17 := ItC.step (Os := [[(g1, .cells #[v] 22 (0, 0))], [(g2, .cells #[.func (.func 8) #[] #[]] 27 (0, 0))], bs]) (LE := [.p (SqE eI vS4 ((So.srt kI xs).drop (So.ga (So.grp kI (So.srt kI xs)) t))), slI ((q16 5).val 0) (((So.srt kI xs).drop (So.ga (So.grp kI (So.srt kI xs)) t)).take (1 + i))]) HI11 hJ (OW.out)
     obtain ⟨dY, hsY, hIY⟩ := hI17
     have hg19 : YdX (fun u ys => SlE eI [.int .i64 0] 3 u ys) (So.grp kI (So.srt kI xs)) (t) ⟨((So.srt kI xs).drop (So.ga (So.grp kI (So.srt kI xs)) t)).getD 0 0 % 4, ((So.srt kI xs).drop (So.ga (So.grp kI (So.srt kI xs)) t)).take (1 + i), (q16 5).val 0, dY.getD 1 []⟩ := YdX.of 1 hsY rfl (g_get HPT.out HNE.out)
     obtain ⟨fn, tmps, assign, body, hy18, hR⟩ := HY.out dY.flatten _ _ _ hg19 (mem_flatD dY 1) (nd_flatD hIY 1) hIY
     dsimp only [Yd.enc] at hy18
     replace hg19 := hg19.1
     clear OW HI11
     try dsimp only at hy18
     generalize hgen20 : ((So.srt kI xs).drop (So.ga (So.grp kI (So.srt kI xs)) t)).getD 0 0 % 4 = gen21 at hy18 ⊢
     gi_wp2
     refine hR.mono ?_
     rintro e W22 (⟨rfl, hI3⟩ | ⟨rfl, Oy, hJx⟩)
     ·
      clear hy18 hR
      subst hgen20
      obtain ⟨R23, HI24, OW⟩ := ItL.start (Os := [[(g1, .cells #[v] 22 (0, 0))], [(g2, .cells #[.func (.func 8) #[] #[]] 27 (0, 0))], bs]) (LE := [.p (SqE eI vS4 ((So.srt kI xs).drop (So.ga (So.grp kI (So.srt kI xs)) t))), slI ((q16 5).val 0) (((So.srt kI xs).drop (So.ga (So.grp kI (So.srt kI xs)) t)).take (1 + i))]) (⟨dY, hsY, hI3⟩)
      replace OW := Lib.hid (OwnE.cast (L' := [ob g1 #[v] 22, ob g2 #[.func (.func 8) #[] #[]] 27, .c bs, .p (SqE eI vS4 ((So.srt kI xs).drop (So.ga (So.grp kI (So.srt kI xs)) t))), slI ((q16 5).val 0) (((So.srt kI xs).drop (So.ga (So.grp kI (So.srt kI xs)) t)).take (1 + i))]) OW.out (by kernel_rfl))
      clear hI3
      gi_upto_region 7 with fail
      refine rg (fun q25 => [.v (vS4),
       .v (.int .i64 ((1 + i : Nat) : Int)),
       .m (slR 3 (.p (SqE eI vS4 ((So.srt kI xs).drop (So.ga (So.grp kI (So.srt kI xs)) t)))) (1 + i) 1 (fun _ h => h) (by omega)),
       .v (sbV vS4 (1 + i) (((So.srt kI xs).drop (So.ga (So.grp kI (So.srt kI xs)) t)).length) 1)]) (fun _ L => L) OW ?_
      clear OW; intro q25 _ Wq25 OW; simp only [↓pc, ↓pn, vE, Hint.val, Act.put, eL]
      gi_wp2
      have HME := lenV_lt (j := 1 + i) OW.out 3 rfl (by omega) (by omega)
      replace OW := Lib.hid (OwnE.cast (L' := [ob g1 #[v] 22, ob g2 #[.func (.func 8) #[] #[]] 27, .c bs, .p (SqE eI (sbV vS4 (1 + i) (((So.srt kI xs).drop (So.ga (So.grp kI (So.srt kI xs)) t)).length) 1) (((So.srt kI xs).drop (So.ga (So.grp kI (So.srt kI xs)) t)).drop (1 + i))), slI ((q16 5).val 0) (((So.srt kI xs).drop (So.ga (So.grp kI (So.srt kI xs)) t)).take (1 + i))]) (OW.out.weak 3 (y := .p (SqE eI (sbV vS4 (1 + i) (((So.srt kI xs).drop (So.ga (So.grp kI (So.srt kI xs)) t)).length) 1) (((So.srt kI xs).drop (So.ga (So.grp kI (So.srt kI xs)) t)).drop (1 + i)))) rfl (fun _ h => SqE.drop (en := eI) (xs := ((So.srt kI xs).drop (So.ga (So.grp kI (So.srt kI xs)) t))) (k := 1) (l := (1 + i)) (fun _ => rfl) h (by omega))) (by kernel_rfl))
      refine ⟨?_, ?mea27⟩
      repeat apply Exists.intro
      refine ⟨?rel26, rfl⟩
      case rel26 => exact ⟨t + 1, sbV vS4 (1 + i) (((So.srt kI xs).drop (So.ga (So.grp kI (So.srt kI xs)) t)).length) 1, by omega, rfl, (ItL.count (by rw [← g_next HPT.out HNE.out]; exact ItC.step (Os := [[(g1, .cells #[v] 22 (0, 0))], [(g2, .cells #[.func (.func 8) #[] #[]] 27 (0, 0))], bs]) HI24 hJ (OwnE.pick OW.out [0, 1, 2, 3] _ (by kernel_rfl))) (by rfl))⟩
      case mea27 => exact HME
     ·
      clear hy18 hR
      subst hgen20
      have HX := Lib.hid hJx
      clear hJx
      gi_wp2
      refine bodyPost_ret (results_none rfl _ _ _) rfl ?_
      exact ⟨⟨_, rfl⟩, .inr ⟨_, (by rw [hNX.out]; exact (List.getElem?_eq_some_iff.1 hg19).1), _, HX.out⟩⟩
    have dhB12 := of_decide_eq_false hB12
    gi_upto_region 4 with fail
    refine rg (fun q28 => [.v (.int .i64 ((1 + i : Nat) : Int)),
     .v (vS4),
     .m (lenR 3 (.p (SqE eI vS4 ((So.srt kI xs).drop (So.ga (So.grp kI (So.srt kI xs)) t)))) (fun _ h => h.1)),
     .t (tk (show Value.bool (decide (((1 + i : Nat) : Int) < ((((So.srt kI xs).drop (So.ga (So.grp kI (So.srt kI xs)) t)).length : Nat) : Int))) = .bool false from congrArg Value.bool hB12)),
     .v (.bool false),
     .d (.bool false),
     .d (.bool false),
     .d (.bool false),
     .d (.bool false),
     .d (.bool false),
     .d (.bool false),
     .d (.bool false),
     .d (.bool false),
     .k (.bool false)]) (fun _ L => L) OW ?_
    clear OW; intro q28 _ Wq28 OW; simp only [↓pc, ↓pn, vE, Hint.val, Act.put, eL]
    gi_upto_region 6 with fail
    have HNE := Lib.hid (g_stop (n := 1 + i) HPT.out HIN.out (by first | exact .inl (by omega) | exact .inr (ne_of_beq_false (by assumption))))
    have hne1 := Nat.le_of_eq HNE.out
    refine wpIn_region_eP 6 5 (fun q29 => [.v (.func (.yield lY) #[] #[]),
     .v (.int .i64 ((((So.srt kI xs).drop (So.ga (So.grp kI (So.srt kI xs)) t)).getD 0 0) % 4)),
     .v (vS4),
     .v (.int .i64 ((1 + i : Nat) : Int)),
     .m (slH 3 (.p (SqE eI vS4 ((So.srt kI xs).drop (So.ga (So.grp kI (So.srt kI xs)) t)))) (1 + i) 1 (fun _ h => h) (by omega)),
     .c [3] [4] (clHQ vS4 ((So.srt kI xs).drop (So.ga (So.grp kI (So.srt kI xs)) t)) (by omega) (1 + i) (by omega))]) (fun q29 L => L ++ [slI ((q29 5).val 0) (((So.srt kI xs).drop (So.ga (So.grp kI (So.srt kI xs)) t)).take (1 + i))]) OW (fun _ => by kernel_rfl) ?_
    clear OW; intro q29 _ Wq29 OW; simp only [↓pc, ↓pn, vE, Hint.val, Act.put, eL, List.take_succ_cons, List.take_zero, List.drop_succ_cons, List.drop_zero]
    have hI30 := ItC.step (Os := [[(g1, .cells #[v] 22 (0, 0))], [(g2, .cells #[.func (.func 8) #[] #[]] 27 (0, 0))], bs]) (LE := [.p (SqE eI vS4 ((So.srt kI xs).drop (So.ga (So.grp kI (So.srt kI xs)) t))), slI ((q29 5).val 0) (((So.srt kI xs).drop (So.ga (So.grp kI (So.srt kI xs)) t)).take (1 + i))]) HI11 hJ (OW.out)
    obtain ⟨dY, hsY, hIY⟩ := hI30
    have hg32 : YdX (fun u ys => SlE eI [.int .i64 0] 3 u ys) (So.grp kI (So.srt kI xs)) (t) ⟨((So.srt kI xs).drop (So.ga (So.grp kI (So.srt kI xs)) t)).getD 0 0 % 4, ((So.srt kI xs).drop (So.ga (So.grp kI (So.srt kI xs)) t)).take (1 + i), (q29 5).val 0, dY.getD 1 []⟩ := YdX.of 1 hsY rfl (g_get HPT.out HNE.out)
    obtain ⟨fn, tmps, assign, body, hy31, hR⟩ := HY.out dY.flatten _ _ _ hg32 (mem_flatD dY 1) (nd_flatD hIY 1) hIY
    dsimp only [Yd.enc] at hy31
    replace hg32 := hg32.1
    clear OW HI11
    try dsimp only at hy31
    generalize hgen33 : ((So.srt kI xs).drop (So.ga (So.grp kI (So.srt kI xs)) t)).getD 0 0 % 4 = gen34 at hy31 ⊢
    gi_wp2
    refine hR.mono ?_
    rintro e W35 (⟨rfl, hI3⟩ | ⟨rfl, Oy, hJx⟩)
    ·
     clear hy31 hR
     subst hgen33
     obtain ⟨R36, HI37, OW⟩ := ItL.start (Os := [[(g1, .cells #[v] 22 (0, 0))], [(g2, .cells #[.func (.func 8) #[] #[]] 27 (0, 0))], bs]) (LE := [.p (SqE eI vS4 ((So.srt kI xs).drop (So.ga (So.grp kI (So.srt kI xs)) t))), slI ((q29 5).val 0) (((So.srt kI xs).drop (So.ga (So.grp kI (So.srt kI xs)) t)).take (1 + i))]) (⟨dY, hsY, hI3⟩)
     replace OW := Lib.hid (OwnE.cast (L' := [ob g1 #[v] 22, ob g2 #[.func (.func 8) #[] #[]] 27, .c bs, .p (SqE eI vS4 ((So.srt kI xs).drop (So.ga (So.grp kI (So.srt kI xs)) t))), slI ((q29 5).val 0) (((So.srt kI xs).drop (So.ga (So.grp kI (So.srt kI xs)) t)).take (1 + i))]) OW.out (by kernel_rfl))
     clear hI3
     gi_upto_region 7 with fail
     refine rg (fun q38 => [.v (vS4),
      .v (.int .i64 ((1 + i : Nat) : Int)),
      .m (slR 3 (.p (SqE eI vS4 ((So.srt kI xs).drop (So.ga (So.grp kI (So.srt kI xs)) t)))) (1 + i) 1 (fun _ h => h) (by omega)),
      .v (sbV vS4 (1 + i) (((So.srt kI xs).drop (So.ga (So.grp kI (So.srt kI xs)) t)).length) 1)]) (fun _ L => L) OW ?_
     clear OW; intro q38 _ Wq38 OW; simp only [↓pc, ↓pn, vE, Hint.val, Act.put, eL]
     gi_wp2
     have HME := lenV_lt (j := 1 + i) OW.out 3 rfl (by omega) (by omega)
     replace OW := Lib.hid (OwnE.cast (L' := [ob g1 #[v] 22, ob g2 #[.func (.func 8) #[] #[]] 27, .c bs, .p (SqE eI (sbV vS4 (1 + i) (((So.srt kI xs).drop (So.ga (So.grp kI (So.srt kI xs)) t)).length) 1) (((So.srt kI xs).drop (So.ga (So.grp kI (So.srt kI xs)) t)).drop (1 + i))), slI ((q29 5).val 0) (((So.srt kI xs).drop (So.ga (So.grp kI (So.srt kI xs)) t)).take (1 + i))]) (OW.out.weak 3 (y := .p (SqE eI (sbV vS4 (1 + i) (((So.srt kI xs).drop (So.ga (So.grp kI (So.srt kI xs)) t)).length) 1) (((So.srt kI xs).drop (So.ga (So.grp kI (So.srt kI xs)) t)).drop (1 + i)))) rfl (fun _ h => SqE.drop (en := eI) (xs := ((So.srt kI xs).drop (So.ga (So.grp kI (So.srt kI xs)) t))) (k := 1) (l := (1 + i)) (fun _ => rfl) h (by omega))) (by kernel_rfl))
     refine ⟨?_, ?mea40⟩
     repeat apply Exists.intro
     refine ⟨?rel39, rfl⟩
     case rel39 => exact ⟨t + 1, sbV vS4 (1 + i) (((So.srt kI xs).drop (So.ga (So.grp kI (So.srt kI xs)) t)).length) 1, by omega, rfl, (ItL.count (by rw [← g_next HPT.out HNE.out]; exact ItC.step (Os := [[(g1, .cells #[v] 22 (0, 0))], [(g2, .cells #[.func (.func 8) #[] #[]] 27 (0, 0))], bs]) HI37 hJ (OwnE.pick OW.out [0, 1, 2, 3] _ (by kernel_rfl))) (by rfl))⟩
     case mea40 => exact HME
    ·
     clear hy31 hR
     subst hgen33
     have HX := Lib.hid hJx
     clear hJx
     gi_wp2
     refine bodyPost_ret (results_none rfl _ _ _) rfl ?_
     exact ⟨⟨_, rfl⟩, .inr ⟨_, (by rw [hNX.out]; exact (List.getElem?_eq_some_iff.1 hg32).1), _, HX.out⟩⟩
  have dhB7 := of_decide_eq_false hB7
  gi_wp2
  go_end0
  exact ⟨⟨_, rfl⟩, .inl (by rw [hKX.out, hNX.out]; exact ItL.leaf (ItL.count (ItC.step (Os := [[(g1, .cells #[v] 22 (0, 0))], [(g2, .cells #[.func (.func 8) #[] #[]] 27 (0, 0))], bs]) (LE := [.p (SqE eI vS4 ((So.srt kI xs).drop (So.ga (So.grp kI (So.srt kI xs)) t)))]) HI5 hJ (OW.out)) (by exact gt_end (by omega) (by omega))))⟩
end Go.Proofs.Ytdglhppcfdpcaaa.E
