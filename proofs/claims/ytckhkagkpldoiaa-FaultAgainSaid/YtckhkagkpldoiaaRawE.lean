/- raw.Exposure: a walk. -/
import Derived.Test.YtckhkagkpldoiaaRawU
import Derived.Test.YtckhkagkpldoiaaArrL
import Derived.Deep.RegionWith
import Derived.Deep.CutRange
namespace Go.Proofs.Ytckhkagkpldoiaa
open Go.RowKit
attribute [-go_sem] loadVar
attribute [local go_sem high] load_row_down
attribute [local go_sem low] load_var_step

/-- How much two are exposed to one another: over the first k words, and over all. -/
def exP (mode : Int) (xs ys : List UInt8) : Nat → Nat
  | 0 => 0
  | k + 1 => max (exP mode xs ys k) (ul mode (wordB mode xs (k : Int)) (wordB mode ys (k : Int)))
def expo (mode : Int) (xs ys : List UInt8) : Nat := exP mode xs ys (wdN mode)
theorem word_len {mode : Int} {xs : List UInt8} {k : Nat} (hl : xs.length = 72) (h : k < wdN mode) : (wordB mode xs (k : Int)).length = chN mode := by
  obtain ⟨_, hf, _⟩ := mode_fit h
  unfold wordB
  rw [if_pos (by omega), Int.toNat_natCast, List.length_take, List.length_drop]
  omega
theorem chN_le' (mode : Int) : chN mode ≤ 36 := by unfold chN; split <;> (try split) <;> omega
theorem wdN_le' (mode : Int) : wdN mode ≤ 8 := by unfold wdN; split <;> (try split) <;> omega
theorem ul_le {mode : Int} {xs ys : List UInt8} {n : Nat} (h1 : xs.length = n) (h2 : ys.length = n) : ul mode xs ys ≤ 64 * n := by
  unfold ul
  split
  · unfold dI
    have := dfB_le xs ys (min xs.length ys.length)
    omega
  · have := ulB_le xs ys xs.length
    omega
theorem ul_le36 {mode : Int} {xs ys : List UInt8} (h1 : xs.length ≤ 36) (h2 : ys.length ≤ 36) : ul mode xs ys ≤ 64 * 36 := by
  unfold ul
  split
  · unfold dI
    have := dfB_le xs ys (min xs.length ys.length)
    omega
  · have := ulB_le xs ys xs.length
    omega
theorem word_le (mode : Int) (xs : List UInt8) (k : Int) : (wordB mode xs k).length ≤ 36 := by
  have := chN_le' mode
  unfold wordB
  split
  · rw [List.length_take]; omega
  · exact Nat.zero_le _
theorem exP_le (mode : Int) (xs ys : List UInt8) (k : Nat) : exP mode xs ys k ≤ 64 * 36 := by
  induction k with
  | zero => exact Nat.zero_le _
  | succ k ih =>
    have := ul_le36 (mode := mode) (word_le mode xs (k : Int)) (word_le mode ys (k : Int))
    rw [exP]
    omega
def At2 (w : World) (b0 : Nat) (cv dv : Array Value) (W : World) : Prop := Blk W b0 41 cv ∧ Blk W (b0 + 1) 41 dv ∧ Below b0 w W ∧ b0 + 2 ≤ W.heap.size
theorem At2.below {w : World} {b0 : Nat} {cv dv : Array Value} {W W' : World} (h : At2 w b0 cv dv W) (hb : Below W.heap.size W W') : At2 w b0 cv dv W' := by
  obtain ⟨h0, h1, h2, h3⟩ := h
  exact ⟨h0.below hb (by omega), h1.below hb (by omega), h2.trans (hb.mono (by omega)), Nat.le_trans h3 hb.size⟩

set_option maxRecDepth 100000 in
set_option maxHeartbeats 2000000 in
theorem exposure_any (mode : Int) (xs ys : List UInt8) (lx : xs.length = 72) (ly : ys.length = 72) (w : World) :
    Calls Try.prog 86 #[.int .i64 mode, .agg (rawV xs), .agg (rawV ys)] w fun e w' => e = .returned (.int .i64 (expo mode xs ys : Nat)) ∧ Below w.heap.size w w' := by
  have hb1 := boxRaw (rawV xs)
  have hb2 := boxRaw (rawV ys)
  have HD := Lib.hid (fun w => words_any mode w)
  have HWX := Lib.hid (fun k w => word_any xs lx mode (k : Int) w)
  have HWY := Lib.hid (fun k w => word_any ys ly mode (k : Int) w)
  have HI1 : (rawV xs).size = 72 := by rw [rawV_size, lx]
  have HI2 : (rawV ys).size = 72 := by rw [rawV_size, ly]
  have HL := Lib.hid (And.intro lx ly)
  obtain ⟨cv, hcv⟩ : ∃ cv, rawV xs = cv := ⟨_, rfl⟩
  obtain ⟨dv, hdv⟩ : ∃ cv, rawV ys = cv := ⟨_, rfl⟩
  obtain ⟨b0, hb0⟩ : ∃ b0, w.heap.size = b0 := ⟨_, rfl⟩
  have HB0 := Lib.hid hb0
  obtain ⟨d, hd⟩ : ∃ d, wdN mode = d := ⟨_, rfl⟩
  have HDD := Lib.hid hd
  rw [hcv] at hb1 HWX HI1 ⊢
  rw [hdv] at hb2 HWY HI2 ⊢
  rw [hd] at HD
  have H1 := Lib.hid (And.intro HI1 HI2)
  clear hcv hdv hd lx ly HI1 HI2
  go_enter Try.func86, Try.ntmps86
  go_wp2_with fail
  refine (HD.out _).mono ?_
  rintro e w' ⟨rfl, hw⟩
  have hA : At2 w b0 cv dv w' := by
    rw [← hw, ← hb0]
    refine ⟨(Blk.new w _ _).alloc _, ?_, ((Below.refl _ w).alloc (Nat.le_refl _) _).alloc (by simp) _, by simp⟩
    have h := Blk.new (w.alloc (.cells cv 41)) 41 dv
    rw [World.size_alloc] at h; exact h
  have HA := Lib.hid hA
  clear hb1 hb2 hw hA
  go_wp2
  go_loopw [7, 11] (fun s i wr => ∃ k : Nat, k ≤ d ∧ i = .int .i64 k ∧ s = .int .i64 ((exP mode xs ys k : Nat) : Int) ∧ At2 w b0 cv dv wr) (fun _ i _ => d - (intOf i).toNat)
  case atStart => exact ⟨0, Nat.zero_le _, rfl, rfl, HA.out⟩
  case round =>
    obtain ⟨k, hk, rfl, rfl, hA⟩ := hrel
    obtain ⟨C, hC⟩ : ∃ C, exP mode xs ys k = C := ⟨_, rfl⟩
    rw [hC]
    by_cases hl : k < d
    · have HKD := Lib.hid hl
      have hk8 : k ≤ 8 := by have := wdN_le' mode; rw [HDD.out] at this; omega
      have HX := fun w => HWX.out (k : Int) w
      have HY := fun w => HWY.out (k : Int) w
      have l1 := word_len HL.out.1 (show k < wdN mode by rw [HDD.out]; exact hl)
      have l2 := word_len HL.out.2 (show k < wdN mode by rw [HDD.out]; exact hl)
      have hs : exP mode xs ys (k + 1) = max C (ul mode (wordB mode xs (k : Int)) (wordB mode ys (k : Int))) := by rw [exP, hC]
      have hcl := chN_le' mode
      obtain ⟨n, hn⟩ : ∃ n, chN mode = n := ⟨_, rfl⟩
      rw [hn] at l1 l2 hcl
      obtain ⟨X, hX⟩ : ∃ X, wordB mode xs (k : Int) = X := ⟨_, rfl⟩
      obtain ⟨Y, hY⟩ : ∃ X, wordB mode ys (k : Int) = X := ⟨_, rfl⟩
      rw [hX] at HX l1 hs
      rw [hY] at HY l2 hs
      rw [l1] at HX
      rw [l2] at HY
      have HU := fun A B c e w h1 h2 => unlike_any mode A B n c e X Y l1 l2 (by omega) w h1 h2
      have hul := ul_le (mode := mode) l1 l2
      obtain ⟨u, hu⟩ : ∃ u, ul mode X Y = u := ⟨_, rfl⟩
      rw [hu] at HU hs hul
      have HS := Lib.hid hs
      have HX' := Lib.hid HX
      have HY' := Lib.hid HY
      have HU' := Lib.hid HU
      have HA := Lib.hid hA
      have hCl : C ≤ 64 * 36 := by rw [← hC]; exact exP_le mode xs ys k
      clear HX HY HU hs hX hY hn l1 l2 hC hA hu
      go_upto_region 5 with fail
      replace HA := Lib.hid (show At2 w b0 cv dv wr.drew from ⟨HA.out.1, HA.out.2.1, below_drewN HA.out.2.2.1 1, HA.out.2.2.2⟩)
      have g1 := HA.out.1.row H1.out.1
      have g2 := HA.out.2.1.row H1.out.2
      go_region_with (first
        | (go_at_call 102; first
            | (have K0 := K1; clear K0; refine (HY'.out _).mono ?_; rintro e w3 ⟨A2, c2, rfl, r2, bl2⟩; have K2 := Lib.hid (K1.out.below bl2); have R2 := Lib.hid (And.intro (R1.out.below bl2) r2); clear r2 bl2)
            | (refine (HX'.out _).mono ?_; rintro e w2 ⟨A1, c1, rfl, r1, bl1⟩; have K1 := Lib.hid (HA.out.below bl1); have R1 := Lib.hid r1; have g3 := K1.out.1.row H1.out.1; have g4 := K1.out.2.1.row H1.out.2; clear r1 bl1))
        | (go_at_call 101; refine (HU'.out _ _ _ _ _ R2.out.1 R2.out.2).mono ?_; rintro e w4 ⟨rfl, rfl⟩))
      all_goals clear g1 g2 g3 g4 HX' HY' HU'
      all_goals
        by_cases hcu : C < u
        · have HM := Lib.hid (show max C u = u by omega)
          rw [if_pos hcu]
          clear hcu
          go_wp2
          go_roundw
          case rel => exact ⟨k + 1, by have := HKD.out; omega, by go_num, by rw [HS.out, HM.out], K2.out⟩
          case measure => have := HKD.out; simp [intOf]; omega
        · have HM := Lib.hid (show max C u = C by omega)
          rw [if_neg hcu]
          clear hcu
          go_wp2
          go_roundw
          case rel => exact ⟨k + 1, by have := HKD.out; omega, by go_num, by rw [HS.out, HM.out], K2.out⟩
          case measure => have := HKD.out; simp [intOf]; omega
    · obtain rfl : k = d := by omega
      have HA2 := Lib.hid hA
      have HC := Lib.hid hC
      clear hA hC
      go_wp2
      go_ret
      exact ⟨by unfold expo; rw [HDD.out, HC.out]; rfl, by rw [HB0.out]; exact HA2.out.2.2.1⟩
end Go.Proofs.Ytckhkagkpldoiaa
