/- RawExposes, walked: for every mode and raw bytes the law returns true. -/
import Derived.Test.YthfncfcajjecbaaRawX
import Derived.Test.YthfncfcajjecbaaRawQ
import Derived.Test.YthfncfcajjecbaaOwnP
import Derived.Test.YthfncfcajjecbaaRawA
import Derived.Deep.WholeRow
namespace Go.Proofs.Ythfncfcajjecbaa
open Go.RowKit Go.Shelf
attribute [local go_sem] Oper.semAt_some

set_option maxRecDepth 100000 in
set_option maxHeartbeats 1000000 in
theorem RawExposes_walk (a0 : Int) (xs ys zs : List UInt8) (w : World) (_w0 : (Lit.int .i64 a0).wf = true) (lx : xs.length = 72) (ly : ys.length = 72) (lz : zs.length = 72) :
    Calls Try.prog 5 #[.int .i64 a0, .agg (rawV xs), .agg (rawV ys), .agg (rawV zs)] w fun e w' => e = .returned (.bool true) ∧ Below w.heap.size w w' := by
  have hZ := expo_eq0 a0 lx ly
  have HXY := Lib.hid (fun W => exposure_any a0 xs ys lx ly W)
  have HYX := Lib.hid (fun W => exposure_any a0 ys xs ly lx W)
  have HYZ := Lib.hid (fun W => exposure_any a0 ys zs ly lz W)
  have HXZ := Lib.hid (fun W => exposure_any a0 xs zs lx lz W)
  have HRF := Lib.hid (fun W => refExp_any a0 xs ys lx ly W)
  have EQ := fun W => eq_raw xs ys lx ly W
  have guard := guard_raw
  have ht := expo_tri (mode := a0) lx ly lz
  have hc := expo_comm (mode := a0) ly lx
  have b1 := expo_le a0 xs ys
  have b2 := expo_le a0 ys zs
  have b3 := expo_le a0 xs zs
  obtain ⟨X, hX⟩ : ∃ X, expo a0 xs ys = X := ⟨_, rfl⟩
  obtain ⟨Y, hY⟩ : ∃ X, expo a0 ys zs = X := ⟨_, rfl⟩
  obtain ⟨Z, hz⟩ : ∃ X, expo a0 xs zs = X := ⟨_, rfl⟩
  rw [hc] at HYX
  rw [hX] at HXY HYX HRF ht hZ b1
  rw [hY] at HYZ ht b2
  rw [hz] at HXZ ht b3
  have HSX := Lib.hid (show (Try.prog.info? 23).map (·.size) = some (rawV xs).size by rw [rawV_size, lx]; exact infoRaw)
  have HSY := Lib.hid (show (Try.prog.info? 23).map (·.size) = some (rawV ys).size by rw [rawV_size, ly]; exact infoRaw)
  have HSZ := Lib.hid (show (Try.prog.info? 23).map (·.size) = some (rawV zs).size by rw [rawV_size, lz]; exact infoRaw)
  obtain ⟨cx, hcx⟩ : ∃ cv, rawV xs = cv := ⟨_, rfl⟩
  obtain ⟨cy, hcy⟩ : ∃ cv, rawV ys = cv := ⟨_, rfl⟩
  obtain ⟨cz, hcz⟩ : ∃ cv, rawV zs = cv := ⟨_, rfl⟩
  rw [hcx] at HXY HYX HXZ HRF EQ HSX ⊢
  rw [hcy] at HXY HYX HYZ HRF EQ HSY ⊢
  rw [hcz] at HYZ HXZ HSZ ⊢
  obtain ⟨b0, hb0⟩ : ∃ b0, w.heap.size = b0 := ⟨_, rfl⟩
  have HB0 := Lib.hid hb0
  have OW := Lib.hid (Own.start b0 w)
  have OZ := Lib.hid (And.intro hb0 (Nat.le_refl b0))
  have HZ := Lib.hid hZ
  have HT := Lib.hid ht
  have i1 : (Z : Int) ≤ (X : Int) + (Y : Int) := by omega
  clear hX hY hz hcx hcy hcz lx ly lz hb0 hZ ht hc
  refine (callsIn_wide (n := 6)).1 ?_
  refine callsIn_of_wp_marks Try.func5 rfl trivial ?_ rfl
  simp only [Try.ntmps5, List.size_toArray, List.length_cons, List.length_nil, Nat.reduceAdd, Nat.reduceSub, Array.replicate_succ, Array.replicate_zero, List.push_toArray, List.append_toArray, List.nil_append, List.cons_append]
  gi_wp2_with (first
    | (refine own_box 23 (.tmp 1) rfl rfl (.agg cx) rfl cx rfl OW OZ ?_; clear OW OZ; intro W OW OZ)
    | (refine own_box 23 (.tmp 2) rfl rfl (.agg cy) rfl cy rfl OW OZ ?_; clear OW OZ; intro W OW OZ)
    | (refine own_box 23 (.tmp 3) rfl rfl (.agg cz) rfl cz rfl OW OZ ?_; clear OW OZ; intro W OW OZ))
  refine ⟨trivial, ?_⟩
  refine (callsIn_wide.2 (anchor9_any _)).mono ?_
  rintro e W1 ⟨rfl, hbw⟩
  obtain ⟨g1, OW2, OZ2⟩ := own_call OW OZ hbw
  clear hbw OW OZ
  have OW := OW2
  have OZ := OZ2
  clear OW2 OZ2
  gi_upto_region 3 with fail
  refine wpIn_region_held 15 (atD [[], [], [], [0, 1, 2], [], [], [], [4, 5, 6], [], [], [], [8, 9, 10], [3], [7], [11]]) (atV [fun v _ => v = .int .i64 a0, fun v _ => v = .agg cx, fun v _ => v = .agg cy, fun v _ => v = .int .i64 (X : Int), fun v _ => v = .int .i64 a0, fun v _ => v = .agg cy, fun v _ => v = .agg cz, fun v _ => v = .int .i64 (Y : Int), fun v _ => v = .int .i64 a0, fun v _ => v = .agg cx, fun v _ => v = .agg cz, fun v _ => v = .int .i64 (Z : Int), fun v _ => v = .int .i64 (X : Int), fun v _ => v = .int .i64 (Y : Int), fun v _ => v = .int .i64 (Z : Int)]) BelowR (by kernel_rfl) (by kernel_rfl) BelowR.trans (BelowR.drew _)
    (StV.atV (.const _ (.const _ (.const _ (.const _ (.const _ (.const _ (.const _ (.const _ (.const _ (.const _ (.const _ (.const _ (.const _ (.const _ (.const _ .nil))))))))))))))))
    ⟨?o0, ?o1, ?o2, ?o3, ?o4, ?o5, ?o6, ?o7, ?o8, ?o9, ?o10, ?o11, ?o12, ?o13, ?o14, trivial⟩ ?hend
  case o0 =>
    exact held_move free_wide rfl BelowR.refl (.tmp 0) (.inl rfl) fun xsH w' _ _ => (putsH_old (by kernel_rfl)).trans rfl
  case o1 =>
    exact held_load free_wide rfl BelowR.refl 23 (.tmp 5) rfl fun xsH w' hk hR => ⟨⟨b0, 0, none⟩, _, ((putsH_old (by kernel_rfl)).trans rfl), run_loadVar_row w' b0 _ _ _ (0, 0) _ ((OW.out.step hR).get (k := 0) rfl) Try.underlying23 rfl HSX.out, rfl⟩
  case o2 =>
    exact held_load free_wide rfl BelowR.refl 23 (.tmp 6) rfl fun xsH w' hk hR => ⟨⟨(b0 + 1), 0, none⟩, _, ((putsH_old (by kernel_rfl)).trans rfl), run_loadVar_row w' (b0 + 1) _ _ _ (0, 0) _ ((OW.out.step hR).get (k := 1) rfl) Try.underlying23 rfl HSY.out, rfl⟩
  case o3 =>
    refine held_call free_wide rfl 16 _ _ rfl (enters_of Try.func16 (by kernel_rfl) rfl) fun xsH w' hk hR => ?_
    have e0 : xsH 0 = .int .i64 a0 := hk 0 (by decide)
    have e1 : xsH 1 = .agg cx := hk 1 (by decide)
    have e2 : xsH 2 = .agg cy := hk 2 (by decide)
    refine ⟨#[.int .i64 a0, .agg cx, .agg cy], ?_, ?_⟩
    · simp only [List.map_toArray, List.map_cons, List.map_nil]
      rw [putsH_tmp (i := 0) (by kernel_rfl) (by kernel_rfl), e0, putsH_tmp (i := 1) (by kernel_rfl) (by kernel_rfl), e1, putsH_tmp (i := 2) (by kernel_rfl) (by kernel_rfl), e2]
    · refine (callsIn_wide.2 (HXY.out w')).mono ?_
      rintro e w2 ⟨rfl, h2⟩
      exact ⟨_, rfl, rfl, h2⟩
  case o4 =>
    exact held_move free_wide rfl BelowR.refl (.tmp 0) (.inl rfl) fun xsH w' _ _ => (putsH_old (by kernel_rfl)).trans rfl
  case o5 =>
    exact held_load free_wide rfl BelowR.refl 23 (.tmp 6) rfl fun xsH w' hk hR => ⟨⟨(b0 + 1), 0, none⟩, _, ((putsH_old (by kernel_rfl)).trans rfl), run_loadVar_row w' (b0 + 1) _ _ _ (0, 0) _ ((OW.out.step hR).get (k := 1) rfl) Try.underlying23 rfl HSY.out, rfl⟩
  case o6 =>
    exact held_load free_wide rfl BelowR.refl 23 (.tmp 7) rfl fun xsH w' hk hR => ⟨⟨(b0 + 1 + 1), 0, none⟩, _, ((putsH_old (by kernel_rfl)).trans rfl), run_loadVar_row w' (b0 + 1 + 1) _ _ _ (0, 0) _ ((OW.out.step hR).get (k := 2) rfl) Try.underlying23 rfl HSZ.out, rfl⟩
  case o7 =>
    refine held_call free_wide rfl 16 _ _ rfl (enters_of Try.func16 (by kernel_rfl) rfl) fun xsH w' hk hR => ?_
    have e4 : xsH 4 = .int .i64 a0 := hk 4 (by decide)
    have e5 : xsH 5 = .agg cy := hk 5 (by decide)
    have e6 : xsH 6 = .agg cz := hk 6 (by decide)
    refine ⟨#[.int .i64 a0, .agg cy, .agg cz], ?_, ?_⟩
    · simp only [List.map_toArray, List.map_cons, List.map_nil]
      rw [putsH_tmp (i := 4) (by kernel_rfl) (by kernel_rfl), e4, putsH_tmp (i := 5) (by kernel_rfl) (by kernel_rfl), e5, putsH_tmp (i := 6) (by kernel_rfl) (by kernel_rfl), e6]
    · refine (callsIn_wide.2 (HYZ.out w')).mono ?_
      rintro e w2 ⟨rfl, h2⟩
      exact ⟨_, rfl, rfl, h2⟩
  case o8 =>
    exact held_move free_wide rfl BelowR.refl (.tmp 0) (.inl rfl) fun xsH w' _ _ => (putsH_old (by kernel_rfl)).trans rfl
  case o9 =>
    exact held_load free_wide rfl BelowR.refl 23 (.tmp 5) rfl fun xsH w' hk hR => ⟨⟨b0, 0, none⟩, _, ((putsH_old (by kernel_rfl)).trans rfl), run_loadVar_row w' b0 _ _ _ (0, 0) _ ((OW.out.step hR).get (k := 0) rfl) Try.underlying23 rfl HSX.out, rfl⟩
  case o10 =>
    exact held_load free_wide rfl BelowR.refl 23 (.tmp 7) rfl fun xsH w' hk hR => ⟨⟨(b0 + 1 + 1), 0, none⟩, _, ((putsH_old (by kernel_rfl)).trans rfl), run_loadVar_row w' (b0 + 1 + 1) _ _ _ (0, 0) _ ((OW.out.step hR).get (k := 2) rfl) Try.underlying23 rfl HSZ.out, rfl⟩
  case o11 =>
    refine held_call free_wide rfl 16 _ _ rfl (enters_of Try.func16 (by kernel_rfl) rfl) fun xsH w' hk hR => ?_
    have e8 : xsH 8 = .int .i64 a0 := hk 8 (by decide)
    have e9 : xsH 9 = .agg cx := hk 9 (by decide)
    have e10 : xsH 10 = .agg cz := hk 10 (by decide)
    refine ⟨#[.int .i64 a0, .agg cx, .agg cz], ?_, ?_⟩
    · simp only [List.map_toArray, List.map_cons, List.map_nil]
      rw [putsH_tmp (i := 8) (by kernel_rfl) (by kernel_rfl), e8, putsH_tmp (i := 9) (by kernel_rfl) (by kernel_rfl), e9, putsH_tmp (i := 10) (by kernel_rfl) (by kernel_rfl), e10]
    · refine (callsIn_wide.2 (HXZ.out w')).mono ?_
      rintro e w2 ⟨rfl, h2⟩
      exact ⟨_, rfl, rfl, h2⟩
  case o12 =>
    exact held_move free_wide rfl BelowR.refl (.tmp 17) (.inr rfl) fun xsH w' hk _ => by
      have h : atV _ 3 (xsH 3) w' := hk 3 (by decide)
      rw [putsH_tmp (i := 3) (by kernel_rfl) (by kernel_rfl)]
      exact h
  case o13 =>
    exact held_move free_wide rfl BelowR.refl (.tmp 21) (.inr rfl) fun xsH w' hk _ => by
      have h : atV _ 7 (xsH 7) w' := hk 7 (by decide)
      rw [putsH_tmp (i := 7) (by kernel_rfl) (by kernel_rfl)]
      exact h
  case o14 =>
    exact held_move free_wide rfl BelowR.refl (.tmp 25) (.inr rfl) fun xsH w' hk _ => by
      have h : atV _ 11 (xsH 11) w' := hk 11 (by decide)
      rw [putsH_tmp (i := 11) (by kernel_rfl) (by kernel_rfl)]
      exact h
  case hend =>
    intro xsH w' hv hR
    have h0 : xsH 0 = .int .i64 a0 := hv 0 (by omega)
    have h1 : xsH 1 = .agg cx := hv 1 (by omega)
    have h2 : xsH 2 = .agg cy := hv 2 (by omega)
    have h3 : xsH 3 = .int .i64 (X : Int) := hv 3 (by omega)
    have h4 : xsH 4 = .int .i64 a0 := hv 4 (by omega)
    have h5 : xsH 5 = .agg cy := hv 5 (by omega)
    have h6 : xsH 6 = .agg cz := hv 6 (by omega)
    have h7 : xsH 7 = .int .i64 (Y : Int) := hv 7 (by omega)
    have h8 : xsH 8 = .int .i64 a0 := hv 8 (by omega)
    have h9 : xsH 9 = .agg cx := hv 9 (by omega)
    have h10 : xsH 10 = .agg cz := hv 10 (by omega)
    have h11 : xsH 11 = .int .i64 (Z : Int) := hv 11 (by omega)
    have h12 : xsH 12 = .int .i64 (X : Int) := hv 12 (by omega)
    have h13 : xsH 13 = .int .i64 (Y : Int) := hv 13 (by omega)
    have h14 : xsH 14 = .int .i64 (Z : Int) := hv 14 (by omega)
    simp only [List.take_succ_cons, List.take_zero, List.drop_succ_cons, List.drop_zero, putsH, Act.put, List.setIfInBounds_toArray, List.set_cons_succ, List.set_cons_zero, h0, h1, h2, h3, h4, h5, h6, h7, h8, h9, h10, h11, h12, h13, h14]
    have OW2 := Lib.hid (OW.out.step hR)
    clear hv hR OW OZ h0 h1 h2 h3 h4 h5 h6 h7 h8 h9 h10 h11 h12 h13 h14
    have OW := OW2
    clear OW2
    obtain ⟨GH, OZ⟩ := own_size OW HB0
    gi_wp2_with (first
      | (refine own_loadRow 0 23 (.tmp 5) rfl rfl rfl rfl _ Try.underlying23 rfl HSX.out OW ?_)
      | (refine own_loadRow 1 23 (.tmp 6) rfl rfl rfl rfl _ Try.underlying23 rfl HSY.out OW ?_)
      )
    refine ⟨trivial, ?_⟩
    refine (callsIn_wide.2 (HRF.out _)).mono ?_
    rintro e W2 ⟨rfl, hbw⟩
    obtain ⟨g2, OW2, OZ2⟩ := own_call OW OZ hbw
    clear hbw OW OZ
    have OW := OW2
    have OZ := OZ2
    clear OW2 OZ2
    gi_wp2_with (first
      | (refine own_loadRow 0 23 (.tmp 5) rfl rfl rfl rfl _ Try.underlying23 rfl HSX.out OW ?_)
      | (refine own_loadRow 1 23 (.tmp 6) rfl rfl rfl rfl _ Try.underlying23 rfl HSY.out OW ?_)
      )
    refine ⟨trivial, ?_⟩
    refine (callsIn_wide.2 (HYX.out _)).mono ?_
    rintro e W3 ⟨rfl, hbw⟩
    obtain ⟨g3, OW2, OZ2⟩ := own_call OW OZ hbw
    clear hbw OW OZ
    have OW := OW2
    have OZ := OZ2
    clear OW2 OZ2
    by_cases h0 : X = 0
    · have hz : xs = ys ∨ (a0 ≠ 1 ∧ a0 ≠ 2) := HZ.out.1 h0
      subst h0
      by_cases hxy : xs = ys
      · rw [decide_eq_true hxy] at EQ
        clear hz hxy
        gi_wp2_with (first
          | (refine own_loadRow 0 23 (.tmp 5) rfl rfl rfl rfl _ Try.underlying23 rfl HSX.out OW ?_)
          | (refine own_loadRow 1 23 (.tmp 6) rfl rfl rfl rfl _ Try.underlying23 rfl HSY.out OW ?_)
          )
        refine leaves_own [] _ (Nat.le_of_eq HB0.out) (by simpa using OW.out) ?_
        intro W' hO
        exact ⟨_, by simp [results, Try.results5, go_sem], rfl, hO.done HB0⟩
      · obtain ⟨h1, h2⟩ := hz.resolve_left hxy
        rw [decide_eq_false hxy] at EQ
        have m1 : (a0 != 1) = true := by rw [bne_iff_ne]; exact h1
        have m2 : (a0 != 2) = true := by rw [bne_iff_ne]; exact h2
        clear hz hxy h1 h2
        gi_wp2_with (first
          | (refine own_loadRow 0 23 (.tmp 5) rfl rfl rfl rfl _ Try.underlying23 rfl HSX.out OW ?_)
          | (refine own_loadRow 1 23 (.tmp 6) rfl rfl rfl rfl _ Try.underlying23 rfl HSY.out OW ?_)
          )
        refine leaves_own [] _ (Nat.le_of_eq HB0.out) (by simpa using OW.out) ?_
        intro W' hO
        exact ⟨_, by simp [results, Try.results5, go_sem], rfl, hO.done HB0⟩
    · have hxy : xs ≠ ys := fun h => h0 (HZ.out.2 (.inl h))
      have hm : a0 = 1 ∨ a0 = 2 := by
        apply Classical.byContradiction
        intro h
        exact h0 (HZ.out.2 (.inr (by omega)))
      rw [decide_eq_false hxy] at EQ
      have q0 : ((X : Int) == 0) = false := by rw [beq_eq_false_iff_ne]; omega
      clear hxy h0
      rcases hm with rfl | rfl
      · gi_wp2_with (first
          | (refine own_loadRow 0 23 (.tmp 5) rfl rfl rfl rfl _ Try.underlying23 rfl HSX.out OW ?_)
          | (refine own_loadRow 1 23 (.tmp 6) rfl rfl rfl rfl _ Try.underlying23 rfl HSY.out OW ?_)
          )
        refine leaves_own [] _ (Nat.le_of_eq HB0.out) (by simpa using OW.out) ?_
        intro W' hO
        exact ⟨_, by simp [results, Try.results5, go_sem], rfl, hO.done HB0⟩
      · gi_wp2_with (first
          | (refine own_loadRow 0 23 (.tmp 5) rfl rfl rfl rfl _ Try.underlying23 rfl HSX.out OW ?_)
          | (refine own_loadRow 1 23 (.tmp 6) rfl rfl rfl rfl _ Try.underlying23 rfl HSY.out OW ?_)
          )
        refine leaves_own [] _ (Nat.le_of_eq HB0.out) (by simpa using OW.out) ?_
        intro W' hO
        exact ⟨_, by simp [results, Try.results5, go_sem], rfl, hO.done HB0⟩
end Go.Proofs.Ythfncfcajjecbaa
