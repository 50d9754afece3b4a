/- Insertion: of ints. -/
import Derived.Test.YtdglhppcfdpcaaaSoC
import Derived.WalkKit
import Derived.Sort.CutIn
import Derived.IntWalk
namespace Go.Proofs.Ytdglhppcfdpcaaa.E
open Go Go.RowKit Go.Shelf
attribute [local go_sem] Oper.semAt_some
set_option linter.unusedVariables false
set_option linter.unusedSimpArgs false

/-- The key of an int. -/
def kI (a : Int) : Int := a % 4
theorem sg_one1 {α : Type} {key : α → Int} (ys : List α) (a : Nat) : So.sg key ys a (a + 1) = ys := by
  have hl : (So.seg ys a (a + 1)).length ≤ 1 := by unfold So.seg; rw [List.length_drop, List.length_take]; omega
  have hs : So.srt key (So.seg ys a (a + 1)) = So.seg ys a (a + 1) := by
    match hq : So.seg ys a (a + 1) with
    | [] => exact List.mergeSort_nil
    | [x] => exact List.mergeSort_singleton x
    | x :: y :: r => rw [hq] at hl; simp only [List.length_cons] at hl; omega
  unfold So.sg
  rw [hs]
  exact (So.whole (Nat.le_succ a)).symm
theorem sg_no {α : Type} {key : α → Int} (ys : List α) (a : Nat) : So.sg key ys a a = ys := by
  have hs : So.seg ys a a = [] := by unfold So.seg; rw [List.drop_take]; simp
  unfold So.sg
  rw [hs, show So.srt key ([] : List α) = [] from List.mergeSort_nil, List.append_nil]
  exact List.take_append_drop a ys
/-- What an insertion's rounds have shown. -/
structure InsI (ys : List Int) (i t : Nat) : Prop where
  f : ∀ s, s < t → kI (ys.getD i 0) < kI (ys.getD (i - 1 - s) 0)
theorem InsI.zero (ys : List Int) (i : Nat) : InsI ys i 0 := ⟨fun s hs => absurd hs (Nat.not_lt_zero s)⟩
theorem InsI.next {ys : List Int} {i t : Nat} (h : InsI ys i t) (hi : i < ys.length) (ht : t < i) (hc : (So.mvL 0 ys i t).getD (i - t) 0 % 4 < (So.mvL 0 ys i t).getD (i - t - 1) 0 % 4) : InsI ys i (t + 1) := by
  rw [So.mv_at hi (by omega), So.mv_below hi ht] at hc
  refine ⟨fun s hs => ?_⟩
  by_cases he : s = t
  · subst he
    rw [show i - 1 - s = i - s - 1 by omega]
    exact hc
  · exact h.f s (by omega)
theorem ins_end {ys : List Int} {a i t : Nat} (j : Nat) (hj : j = i + 1) (hi : i < ys.length) (ht : a ≤ i - t) (hti : t ≤ i) (h : InsI (So.sg kI ys a i) i t) (hai : a ≤ i) (hs : i - t = a ∨ (t < i ∧ (So.mvL 0 (So.sg kI ys a i) i t).getD (i - t - 1) 0 % 4 ≤ (So.mvL 0 (So.sg kI ys a i) i t).getD (i - t) 0 % 4)) : So.mvL 0 (So.sg kI ys a i) i t = So.sg kI ys a j := by
  subst hj
  have hl : (So.sg kI ys a i).length = ys.length := So.sg_len ys hai (by omega)
  rw [← So.sg_more (key := kI) hai hi]
  refine So.ins_sg (by omega) ht hti ?_ h.f ?_
  · rw [So.sg_seg hai (by omega)]
    exact So.srt_up _
  · rcases hs with hs | ⟨h1, h2⟩
    · exact .inl hs
    · rw [So.mv_at (by omega) hti, So.mv_below (by omega) h1] at h2
      exact .inr h2
theorem sg_end {xs : List Int} {a b k : Nat} (h1 : a ≤ b) (hk : k ≤ b - (a + 1)) (hn : b ≤ a + 1 + k) : So.sg kI xs a (a + 1 + k) = So.sg kI xs a b := by
  rcases Nat.lt_or_ge a b with h | h
  · rw [show a + 1 + k = b by omega]
  · rw [show b = a by omega, sg_no, show k = 0 by omega, Nat.add_zero, sg_one1]
attribute [local irreducible] So.mvL So.sg kI
set_option maxRecDepth 100000 in
set_option maxHeartbeats 1000000 in
theorem soinsI (v : Value) (xs : List Int) (a b : Nat) (g : Nat) (h1 : a ≤ b) (h3 : b ≤ xs.length) (h4 : xs.length ≤ 1000000) : Con Try.prog 74 #[v, .int .i64 (a : Int), .int .i64 (b : Int), .func (.func 21) #[] #[.pointer (some ⟨g, 0, none⟩)]] [slI v xs, ob g #[.func (.func 8) #[] #[]] 27] [0] (fun _ => [slI v (So.sg kI xs a b)]) (fun _ => .tuple #[]) := by
 refine Con.of (enters_of Try.func74 (by kernel_rfl) rfl) fun w cs HS HH OW => ?_
 have HSL := fun i (hi : i < xs.length) (hai : a ≤ i) => Nat.le_of_eq (So.sg_len (key := kI) xs hai (Nat.le_of_lt hi))
 have HSM := fun i (hi : i < xs.length) (hai : a ≤ i) => Nat.le_of_eq (So.sg_len (key := kI) xs hai (Nat.le_of_lt hi)).symm
 refine (callsIn_wide (n := 6)).1 ?_
 refine callsIn_of_wp_marks Try.func74 rfl trivial ?_ rfl
 simp only [Try.ntmps74, eF, Nat.reduceAdd, Nat.reduceSub]
 gi_upto_region 0 with fail
 refine rg (fun q1 => [.v (.int .i64 (a : Int)),
  .t (tb (a := .int .i64 (a : Int)) (b := .int .i64 1) fun _ _ _ _ => bin_add_nat (a := a) (b := 1) (by first | omega | (simp only [List.length_set]; omega))),
  .v (.int .i64 ((a + 1 : Nat) : Int))]) (fun _ L => L) OW ?_
 clear OW; intro q1 _ Wq1 OW; simp only [↓pc, ↓pn, vE, Hint.val, Act.put, eL]
 gi_wp2
 gi_loopw [8] (fun z8 wr => ∃ k : Nat, k ≤ b - (a + 1) ∧ z8 = .int .i64 ((a + 1 + k : Nat) : Int) ∧ OwnE (ids cs.flatten) w [slI v (So.sg kI xs a (a + 1 + k)), ob g #[.func (.func 8) #[] #[]] 27] wr) (fun z8 _ => b - (intOf z8).toNat)
 case atStart => exact ⟨0, by omega, rfl, (by rw [sg_one1]; exact OwnE.cast OW.out (by kernel_rfl))⟩
 case round =>
  obtain ⟨k, hk3, rfl, hO⟩ := hrel
  clear OW
  have OW := Lib.hid hO
  clear hO
  gi_upto_region 1 with fail
  refine rg (fun q4 => [.v (.int .i64 ((a + 1 + k : Nat) : Int)),
   .v (.int .i64 (b : Int)),
   .v (.bool (decide (((a + 1 + k : Nat) : Int) < (b : Int))))]) (fun _ L => L) OW ?_
  clear OW; intro q4 _ Wq4 OW; simp only [↓pc, ↓pn, vE, Hint.val, Act.put, eL]
  cases hB5 : (decide (((a + 1 + k : Nat) : Int) < (b : Int)))
  case true =>
   have dhB5 := of_decide_eq_true hB5
   gi_upto_region 3 with fail
   refine rg (fun q6 => [.v (.int .i64 ((a + 1 + k : Nat) : Int)),
    .v (.int .i64 ((a + 1 + k : Nat) : Int))]) (fun _ L => L) OW ?_
   clear OW; intro q6 _ Wq6 OW; simp only [↓pc, ↓pn, vE, Hint.val, Act.put, eL]
   gi_wp2
   gi_loopw [9] (fun z9 wr => ∃ t : Nat, t ≤ a + 1 + k - a ∧ z9 = .int .i64 ((a + 1 + k - t : Nat) : Int) ∧ (InsI (So.sg kI xs a (a + 1 + k)) (a + 1 + k) t) ∧ OwnE (ids cs.flatten) w [slI v (So.mvL 0 (So.sg kI xs a (a + 1 + k)) (a + 1 + k) t), ob g #[.func (.func 8) #[] #[]] 27] wr) (fun z9 _ => (intOf z9).toNat)
   case atStart => exact ⟨0, by omega, rfl, InsI.zero _ _, (by skip; exact OwnE.cast OW.out (by kernel_rfl))⟩
   case round =>
    obtain ⟨t, hk8, rfl, hii, hO⟩ := hrel
    clear OW
    have HII := Lib.hid hii
    clear hii
    have HS1 := HSL (a + 1 + k) (by omega) (by omega)
    have HS2 := HSM (a + 1 + k) (by omega) (by omega)
    have HS3 := Nat.le_of_eq (So.mvL_len 0 (So.sg kI xs a (a + 1 + k)) (a + 1 + k) t)
    have HS4 := Nat.le_of_eq (So.mvL_len 0 (So.sg kI xs a (a + 1 + k)) (a + 1 + k) t).symm
    have OW := Lib.hid hO
    clear hO
    gi_upto_region 4 with fail
    cases hB9 : (decide ((a : Int) < ((a + 1 + k - t : Nat) : Int)))
    case true =>
     have dhB9 := of_decide_eq_true hB9
     gi_upto_region 4 with fail
     refine rg (fun q10 => [.v (.int .i64 ((a + 1 + k - t : Nat) : Int)),
      .v (.int .i64 (a : Int)),
      .t (tk (show Value.bool (decide ((a : Int) < ((a + 1 + k - t : Nat) : Int))) = .bool true from congrArg Value.bool hB9)),
      .v (.bool true),
      .v (.func (.func 21) #[] #[.pointer (some ⟨g, 0, none⟩)]),
      .v (v),
      .v (.int .i64 ((a + 1 + k - t : Nat) : Int)),
      .m (idxS 0 (slI v (So.mvL 0 (So.sg kI xs a (a + 1 + k)) (a + 1 + k) t)) (a + 1 + k - t) 1 (fun _ h => h) (by first | omega | (simp only [List.length_set]; omega))),
      .m (ldS (u := .int .i64 ((So.mvL 0 (So.sg kI xs a (a + 1 + k)) (a + 1 + k) t).getD (a + 1 + k - t) 0)) (d := 0) 0 (slI v (So.mvL 0 (So.sg kI xs a (a + 1 + k)) (a + 1 + k) t)) (a + 1 + k - t) 1 0 (fun _ h => h) (fun _ => rfl) (by first | omega | (simp only [List.length_set]; omega)) (Nat.le_of_ble_eq_true rfl) (by kernel_rfl)),
      .v (v),
      .v (.int .i64 ((a + 1 + k - t : Nat) : Int)),
      .t (tb (a := .int .i64 ((a + 1 + k - t : Nat) : Int)) (b := .int .i64 1) fun _ _ _ _ => bin_sub_n (a := a + 1 + k - t) (b := 1) (by first | omega | (simp only [List.length_set]; omega)) (by first | omega | (simp only [List.length_set]; omega))),
      .m (idxS 0 (slI v (So.mvL 0 (So.sg kI xs a (a + 1 + k)) (a + 1 + k) t)) ((a + 1 + k - t) - 1) 1 (fun _ h => h) (by first | omega | (simp only [List.length_set]; omega))),
      .m (ldS (u := .int .i64 ((So.mvL 0 (So.sg kI xs a (a + 1 + k)) (a + 1 + k) t).getD ((a + 1 + k - t) - 1) 0)) (d := 0) 0 (slI v (So.mvL 0 (So.sg kI xs a (a + 1 + k)) (a + 1 + k) t)) ((a + 1 + k - t) - 1) 1 0 (fun _ h => h) (fun _ => rfl) (by first | omega | (simp only [List.length_set]; omega)) (Nat.le_of_ble_eq_true rfl) (by kernel_rfl)),
      .c [1] [] (kclo ((So.mvL 0 (So.sg kI xs a (a + 1 + k)) (a + 1 + k) t).getD (a + 1 + k - t) 0) ((So.mvL 0 (So.sg kI xs a (a + 1 + k)) (a + 1 + k) t).getD ((a + 1 + k - t) - 1) 0) g),
      .v (.bool (decide ((kcmp_0 (((So.mvL 0 (So.sg kI xs a (a + 1 + k)) (a + 1 + k) t).getD (a + 1 + k - t) 0) % 4) (((So.mvL 0 (So.sg kI xs a (a + 1 + k)) (a + 1 + k) t).getD ((a + 1 + k - t) - 1) 0) % 4)) < 0))),
      .k (.bool (decide ((kcmp_0 (((So.mvL 0 (So.sg kI xs a (a + 1 + k)) (a + 1 + k) t).getD (a + 1 + k - t) 0) % 4) (((So.mvL 0 (So.sg kI xs a (a + 1 + k)) (a + 1 + k) t).getD ((a + 1 + k - t) - 1) 0) % 4)) < 0)))]) (fun _ L => L) OW ?_
     clear OW; intro q10 _ Wq10 OW; simp only [↓pc, ↓pn, vE, Hint.val, Act.put, eL]
     cases hB11 : (decide ((kcmp_0 (((So.mvL 0 (So.sg kI xs a (a + 1 + k)) (a + 1 + k) t).getD (a + 1 + k - t) 0) % 4) (((So.mvL 0 (So.sg kI xs a (a + 1 + k)) (a + 1 + k) t).getD ((a + 1 + k - t) - 1) 0) % 4)) < 0))
     case true =>
      have dhB11 := of_decide_eq_true hB11
      gi_upto_region 6 with fail
      have HLT := Lib.hid (of_decide_eq_true ((cmp_lt _ _).symm.trans hB11))
      refine rg (fun q12 => [.v (v),
       .v (.int .i64 ((a + 1 + k - t : Nat) : Int)),
       .v (v),
       .v (.int .i64 ((a + 1 + k - t : Nat) : Int)),
       .t (tb (a := .int .i64 ((a + 1 + k - t : Nat) : Int)) (b := .int .i64 1) fun _ _ _ _ => bin_sub_n (a := a + 1 + k - t) (b := 1) (by first | omega | (simp only [List.length_set]; omega)) (by first | omega | (simp only [List.length_set]; omega))),
       .v (v),
       .v (.int .i64 ((a + 1 + k - t : Nat) : Int)),
       .t (tb (a := .int .i64 ((a + 1 + k - t : Nat) : Int)) (b := .int .i64 1) fun _ _ _ _ => bin_sub_n (a := a + 1 + k - t) (b := 1) (by first | omega | (simp only [List.length_set]; omega)) (by first | omega | (simp only [List.length_set]; omega))),
       .m (idxS 0 (slI v (So.mvL 0 (So.sg kI xs a (a + 1 + k)) (a + 1 + k) t)) ((a + 1 + k - t) - 1) 1 (fun _ h => h) (by first | omega | (simp only [List.length_set]; omega))),
       .m (ldS (u := .int .i64 ((So.mvL 0 (So.sg kI xs a (a + 1 + k)) (a + 1 + k) t).getD ((a + 1 + k - t) - 1) 0)) (d := 0) 0 (slI v (So.mvL 0 (So.sg kI xs a (a + 1 + k)) (a + 1 + k) t)) ((a + 1 + k - t) - 1) 1 0 (fun _ h => h) (fun _ => rfl) (by first | omega | (simp only [List.length_set]; omega)) (Nat.le_of_ble_eq_true rfl) (by kernel_rfl)),
       .v (v),
       .v (.int .i64 ((a + 1 + k - t : Nat) : Int)),
       .m (idxS 0 (slI v (So.mvL 0 (So.sg kI xs a (a + 1 + k)) (a + 1 + k) t)) (a + 1 + k - t) 1 (fun _ h => h) (by first | omega | (simp only [List.length_set]; omega))),
       .m (ldS (u := .int .i64 ((So.mvL 0 (So.sg kI xs a (a + 1 + k)) (a + 1 + k) t).getD (a + 1 + k - t) 0)) (d := 0) 0 (slI v (So.mvL 0 (So.sg kI xs a (a + 1 + k)) (a + 1 + k) t)) (a + 1 + k - t) 1 0 (fun _ h => h) (fun _ => rfl) (by first | omega | (simp only [List.length_set]; omega)) (Nat.le_of_ble_eq_true rfl) (by kernel_rfl)),
       .m (idxS 0 (slI v (So.mvL 0 (So.sg kI xs a (a + 1 + k)) (a + 1 + k) t)) (a + 1 + k - t) 1 (fun _ h => h) (by first | omega | (simp only [List.length_set]; omega))),
       .m (stS (T := 3) (v := v) (xs := So.mvL 0 (So.sg kI xs a (a + 1 + k)) (a + 1 + k) t) (en := eI) (z := [.int .i64 0]) (d := 0) (a := ((So.mvL 0 (So.sg kI xs a (a + 1 + k)) (a + 1 + k) t).getD ((a + 1 + k - t) - 1) 0)) (u := .int .i64 ((So.mvL 0 (So.sg kI xs a (a + 1 + k)) (a + 1 + k) t).getD ((a + 1 + k - t) - 1) 0)) 0 (a + 1 + k - t) 1 0 (fun _ => rfl) (by first | omega | (simp only [List.length_set]; omega)) (by decide) (by kernel_rfl)),
       .m (idxS 0 (slI v ((So.mvL 0 (So.sg kI xs a (a + 1 + k)) (a + 1 + k) t).set (a + 1 + k - t) ((So.mvL 0 (So.sg kI xs a (a + 1 + k)) (a + 1 + k) t).getD ((a + 1 + k - t) - 1) 0))) ((a + 1 + k - t) - 1) 1 (fun _ h => h) (by first | omega | (simp only [List.length_set]; omega))),
       .m (stS (T := 3) (v := v) (xs := (So.mvL 0 (So.sg kI xs a (a + 1 + k)) (a + 1 + k) t).set (a + 1 + k - t) ((So.mvL 0 (So.sg kI xs a (a + 1 + k)) (a + 1 + k) t).getD ((a + 1 + k - t) - 1) 0)) (en := eI) (z := [.int .i64 0]) (d := 0) (a := ((So.mvL 0 (So.sg kI xs a (a + 1 + k)) (a + 1 + k) t).getD (a + 1 + k - t) 0)) (u := .int .i64 ((So.mvL 0 (So.sg kI xs a (a + 1 + k)) (a + 1 + k) t).getD (a + 1 + k - t) 0)) 0 ((a + 1 + k - t) - 1) 1 0 (fun _ => rfl) (by first | omega | (simp only [List.length_set]; omega)) (by decide) (by kernel_rfl))]) (fun q12 L => L.set 0 (slI v (((So.mvL 0 (So.sg kI xs a (a + 1 + k)) (a + 1 + k) t).set (a + 1 + k - t) ((So.mvL 0 (So.sg kI xs a (a + 1 + k)) (a + 1 + k) t).getD ((a + 1 + k - t) - 1) 0)).set ((a + 1 + k - t) - 1) ((So.mvL 0 (So.sg kI xs a (a + 1 + k)) (a + 1 + k) t).getD (a + 1 + k - t) 0)))) OW ?_
      clear OW; intro q12 _ Wq12 OW; simp only [↓pc, ↓pn, vE, Hint.val, Act.put, eL]
      gi_upto_region 5 with fail
      refine rg (fun q13 => [.v (.int .i64 ((a + 1 + k - t : Nat) : Int)),
       .t (tb (a := .int .i64 ((a + 1 + k - t : Nat) : Int)) (b := .int .i64 1) fun _ _ _ _ => bin_sub_n (a := a + 1 + k - t) (b := 1) (by first | omega | (simp only [List.length_set]; omega)) (by first | omega | (simp only [List.length_set]; omega))),
       .v (.int .i64 (((a + 1 + k - t) - 1 : Nat) : Int))]) (fun _ L => L) OW ?_
      clear OW; intro q13 _ Wq13 OW; simp only [↓pc, ↓pn, vE, Hint.val, Act.put, eL]
      gi_wp2
      go_roundw
      case rel => exact ⟨t + 1, by omega, rfl, HII.out.next (by omega) (by omega) HLT.out, (by rw [So.mvL]; exact OwnE.pick OW.out [0, 1] _ (by kernel_rfl))⟩
      case measure => (simp [intOf] <;> omega)
     have dhB11 := of_decide_eq_false hB11
     gi_upto_region 2 with fail
     try have HLE := Lib.hid (Int.not_lt.1 (of_decide_eq_false ((cmp_lt _ _).symm.trans hB11)))
     refine rg (fun q14 => [.v (.int .i64 ((a + 1 + k : Nat) : Int)),
      .t (tb (a := .int .i64 ((a + 1 + k : Nat) : Int)) (b := .int .i64 1) fun _ _ _ _ => bin_add_nat (a := a + 1 + k) (b := 1) (by first | omega | (simp only [List.length_set]; omega))),
      .v (.int .i64 (((a + 1 + k) + 1 : Nat) : Int))]) (fun _ L => L) OW ?_
     clear OW; intro q14 _ Wq14 OW; simp only [↓pc, ↓pn, vE, Hint.val, Act.put, eL]
     gi_wp2
     go_roundw
     case rel => exact ⟨k + 1, by omega, rfl, (by (first | rw [← ins_end (ys := xs) (a := a) (i := a + 1 + k) (t := t) (a + 1 + (k + 1)) rfl (by omega) (by omega) (by omega) HII.out (by omega) (.inl (by omega))] | rw [← ins_end (ys := xs) (a := a) (i := a + 1 + k) (t := t) (a + 1 + (k + 1)) rfl (by omega) (by omega) (by omega) HII.out (by omega) (.inr ⟨by omega, HLE.out⟩)]); exact OwnE.pick OW.out [0, 1] _ (by kernel_rfl))⟩
     case measure => (simp [intOf] <;> omega)
    have dhB9 := of_decide_eq_false hB9
    gi_upto_region 4 with fail
    refine rg (fun q15 => [.v (.int .i64 ((a + 1 + k - t : Nat) : Int)),
     .v (.int .i64 (a : Int)),
     .t (tk (show Value.bool (decide ((a : Int) < ((a + 1 + k - t : Nat) : Int))) = .bool false from congrArg Value.bool hB9)),
     .v (.bool false),
     .d (.bool false),
     .d (.bool false),
     .d (.bool false),
     .d (.bool false),
     .d (.bool false),
     .d (.bool false),
     .d (.bool false),
     .d (.bool false),
     .d (.bool false),
     .d (.bool false),
     .d (.bool false),
     .d (.bool false),
     .k (.bool false)]) (fun _ L => L) OW ?_
    clear OW; intro q15 _ Wq15 OW; simp only [↓pc, ↓pn, vE, Hint.val, Act.put, eL]
    gi_upto_region 2 with fail
    try have HLE := Lib.hid (Int.not_lt.1 (of_decide_eq_false ((cmp_lt _ _).symm.trans hB9)))
    refine rg (fun q16 => [.v (.int .i64 ((a + 1 + k : Nat) : Int)),
     .t (tb (a := .int .i64 ((a + 1 + k : Nat) : Int)) (b := .int .i64 1) fun _ _ _ _ => bin_add_nat (a := a + 1 + k) (b := 1) (by first | omega | (simp only [List.length_set]; omega))),
     .v (.int .i64 (((a + 1 + k) + 1 : Nat) : Int))]) (fun _ L => L) OW ?_
    clear OW; intro q16 _ Wq16 OW; simp only [↓pc, ↓pn, vE, Hint.val, Act.put, eL]
    gi_wp2
    go_roundw
    case rel => exact ⟨k + 1, by omega, rfl, (by (first | rw [← ins_end (ys := xs) (a := a) (i := a + 1 + k) (t := t) (a + 1 + (k + 1)) rfl (by omega) (by omega) (by omega) HII.out (by omega) (.inl (by omega))] | rw [← ins_end (ys := xs) (a := a) (i := a + 1 + k) (t := t) (a + 1 + (k + 1)) rfl (by omega) (by omega) (by omega) HII.out (by omega) (.inr ⟨by omega, HLE.out⟩)]); exact OwnE.pick OW.out [0, 1] _ (by kernel_rfl))⟩
    case measure => (simp [intOf] <;> omega)
  have dhB5 := of_decide_eq_false hB5
  gi_wp2
  exact leafE HS HH OW [] Env.zero [0] [(1, 1)] rfl (by kernel_rfl) (by rw [sg_end h1 (by omega) (by omega)]; (repeat (first | rw [hB5] | rw [cond_true] | rw [cond_false])); kernel_rfl)
end Go.Proofs.Ytdglhppcfdpcaaa.E
