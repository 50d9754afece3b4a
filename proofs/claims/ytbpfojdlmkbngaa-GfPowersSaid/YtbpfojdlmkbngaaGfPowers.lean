/- GfPowers, walked: for every a, n, m the law returns true. -/
import Derived.Test.YtbpfojdlmkbngaaGfP
import Derived.Test.YtbpfojdlmkbngaaGfR
import Derived.Deep.DeepCutAuto
namespace Go.Proofs.Ytbpfojdlmkbngaa
open Go.RowKit

theorem lit_i64 {a : Int} (h : (Lit.int .i64 a).wf = true) : -9223372036854775808 ≤ a ∧ a ≤ 9223372036854775807 := bounds_i64 h

set_option maxHeartbeats 2000000 in
set_option maxRecDepth 100000 in
theorem GfPowers_walk (a0 a1 a2 : Int) (w : World) (w0 : (Lit.int .u8 a0).wf = true) (w1 : (Lit.int .i64 a1).wf = true) (w2 : (Lit.int .i64 a2).wf = true) :
    Calls Try.prog 8 #[.int .u8 a0, .int .i64 a1, .int .i64 a2] w fun e w' => e = .returned (.bool true) ∧ Below w.heap.size w w' := by
  obtain ⟨x, rfl, lx⟩ := lit_u8 w0
  obtain ⟨n0, n1⟩ := lit_i64 w1
  obtain ⟨m0, m1⟩ := lit_i64 w2
  clear w0 w1 w2
  obtain ⟨b, hb⟩ : ∃ b, w.heap.size = b := ⟨_, rfl⟩
  have HB := Lib.hid hb
  obtain ⟨l, hl⟩ : ∃ l : Nat, a1 % 255 = l := ⟨(a1 % 255).toNat, by omega⟩
  obtain ⟨r, hr⟩ : ∃ r : Nat, a2 % 255 = r := ⟨(a2 % 255).toNat, by omega⟩
  have bl : l < 255 := by omega
  have br : r < 255 := by omega
  have HL := Lib.hid hl
  have HR := Lib.hid hr
  clear hl hr
  have bE := gE_pos l bl
  have bE2 := gE_pos r br
  have ne : gE l ≠ 0 := by omega
  have ln := gL_gE l bl
  have lr := gL_gE r br
  have LN := Lib.hid ln
  have LR := Lib.hid lr
  have BE := Lib.hid bE
  have BE2 := Lib.hid bE2
  have NE := Lib.hid ne
  clear ln lr bE bE2 ne
  go_enter Try.func8, Try.ntmps8
  go_wp2_with fail
  refine (new_any _).mono ?_
  rintro e w1 ⟨rfl, hw1⟩
  have hF : FieldAt w1 b := by rw [hw1, ← HB.out]; exact FieldAt.new w
  have HF := Lib.hid hF
  have hBel : Below b w w1 := by rw [hw1, ← HB.out]; exact (Below.refl _ _).alloc (Nat.le_refl _) _
  have HBE := Lib.hid hBel
  clear hF hw1 hBel
  rw [hb]
  clear hb
  go_wp2_with fail
  refine (anchor1_any b _ HF.out).mono ?_
  rintro e w2 ⟨rfl, k, rfl⟩
  go_wp2_with fail
  refine (exp_any b _ l HL.out _ (HF.out.drewN _)).mono ?_
  rintro e w2 ⟨rfl, k, rfl⟩
  go_wp2_with fail
  refine (log_any b _ (gE l) rfl BE.out.2 NE.out _ (HF.out.drewN _)).mono ?_
  rintro e w2 ⟨rfl, k, rfl⟩
  rw [LN.out]
  go_upto_region 5 with fail
  go_cut [49] (fun c wx => c = .bool false ∧ ∃ k, wx = w1.drewN k)
  case first =>
    have hl1 : decide ((l : Int) < 0) = false := by simp
    have hl2 : decide ((254 : Int) < (l : Int)) = false := by simp; omega
    by_cases hn : -4611686018427387904 < a1 ∧ a1 < 4611686018427387904
    · have hz : (((a1 - (l : Int)).tmod 255) != 0) = false := by
        have := HL.out
        have h2 := Int.tmod_eq_emod (a := a1 - (l : Int)) (b := 255)
        simp only [bne_eq_false_iff_eq]
        split at h2 <;> omega
      obtain ⟨hn1, hn2⟩ := hn
      go_wp2
      go_meet
      exact ⟨rfl, _, rfl⟩
    · by_cases hn2 : a1 < 4611686018427387904
      · have hn3 : a1 ≤ -4611686018427387904 := by omega
        clear hn
        go_wp2
        all_goals (go_meet; exact ⟨rfl, _, rfl⟩)
      · have hn3 : -4611686018427387904 < a1 := by omega
        clear hn
        go_wp2
        all_goals (go_meet; exact ⟨rfl, _, rfl⟩)
  case rest =>
    obtain ⟨rfl, k, rfl⟩ := hcut
    go_upto_region 7 with fail
    go_cut [81] (fun c wx => c = .bool false ∧ ∃ k, wx = w1.drewN k)
    case first =>
      by_cases hn : -4611686018427387904 < a1 ∧ a1 < 4611686018427387904
      · obtain ⟨hn1, hn2⟩ := hn
        by_cases hm : -4611686018427387904 < a2 ∧ a2 < 4611686018427387904
        · obtain ⟨hm1, hm2⟩ := hm
          have hs : (a1.tmod 255 + a2.tmod 255) % 255 = (((l + r) % 255 : Nat) : Int) := by
            have h1 := HL.out
            have h2 := HR.out
            have h3 := Int.tmod_eq_emod (a := a1) (b := 255)
            have h4 := Int.tmod_eq_emod (a := a2) (b := 255)
            split at h3 <;> split at h4 <;> omega
          have hb1 : -254 ≤ a1.tmod 255 ∧ a1.tmod 255 ≤ 254 := by
            have h3 := Int.tmod_eq_emod (a := a1) (b := 255)
            split at h3 <;> omega
          have hb2 : -254 ≤ a2.tmod 255 ∧ a2.tmod 255 ≤ 254 := by
            have h3 := Int.tmod_eq_emod (a := a2) (b := 255)
            split at h3 <;> omega
          obtain ⟨hb1a, hb1b⟩ := hb1
          obtain ⟨hb2a, hb2b⟩ := hb2
          have hne : ((gmulN (gE l) (gE r) : Int) != (gE ((l + r) % 255) : Nat)) = false := by
            rw [gmulN_gE _ _ bl (by have := BE2.out; omega), LR.out]
            simp
          have HS := Lib.hid hs
          clear hs
          go_wp2_with fail
          refine (exp_any b _ l HL.out _ (HF.out.drewN _)).mono ?_
          rintro e w2 ⟨rfl, k, rfl⟩
          go_wp2_with fail
          refine (exp_any b _ r HR.out _ (HF.out.drewN _)).mono ?_
          rintro e w2 ⟨rfl, k, rfl⟩
          go_wp2_with fail
          refine (mul_any b _ _ (gE l) (gE r) rfl rfl BE.out.2 BE2.out.2 _ (HF.out.drewN _)).mono ?_
          rintro e w2 ⟨rfl, k, rfl⟩
          go_wp2_with fail
          refine (exp_any b _ ((l + r) % 255) HS.out _ (HF.out.drewN _)).mono ?_
          rintro e w2 ⟨rfl, k, rfl⟩
          go_wp2
          go_meet
          exact ⟨rfl, _, rfl⟩
        · by_cases hm2 : a2 < 4611686018427387904
          · have hm3 : a2 ≤ -4611686018427387904 := by omega
            clear hm
            go_wp2
            all_goals (go_meet; exact ⟨rfl, _, rfl⟩)
          · have hm3 : -4611686018427387904 < a2 := by omega
            clear hm
            go_wp2
            all_goals (go_meet; exact ⟨rfl, _, rfl⟩)
      · by_cases hn2 : a1 < 4611686018427387904
        · have hn3 : a1 ≤ -4611686018427387904 := by omega
          clear hn
          go_wp2
          all_goals (go_meet; exact ⟨rfl, _, rfl⟩)
        · have hn3 : -4611686018427387904 < a1 := by omega
          clear hn
          go_wp2
          all_goals (go_meet; exact ⟨rfl, _, rfl⟩)
    case rest =>
      obtain ⟨rfl, k, rfl⟩ := hcut
      by_cases h0 : a1 ≤ 0
      · go_wp2_with fail
        refine (pow_le _ _ _ h0 _).mono ?_
        rintro e w2 ⟨rfl, k, rfl⟩
        go_wp2
        go_ret
        exact ⟨rfl, by rw [HB.out]; exact below_drewN HBE.out _⟩
      obtain ⟨m, rfl⟩ : ∃ m : Nat, a1 = m := ⟨a1.toNat, by omega⟩
      have hm0 : 0 < m := by omega
      by_cases hx0 : x = 0
      · subst hx0
        have hz := gpow_zero_base m hm0
        go_wp2_with fail
        all_goals
          refine (log_zero _ _).mono ?_
          rintro e w2 ⟨rfl, k, rfl⟩
          go_wp2_with fail
          refine (pow_any b 0 _ 0 m rfl rfl hm0 (by omega) _ (HF.out.drewN _)).mono ?_
          rintro e w2 ⟨rfl, k, rfl⟩
          go_wp2
          go_ret
          exact ⟨rfl, by rw [HB.out]; exact below_drewN HBE.out _⟩
      · have g0 : ((x : Int) == 0) = false := beq_eq_false_iff_ne.2 (by omega)
        have lgx := gL_lt x lx
        have hg2 : gpow 2 (gL x) = x := by rw [gpow_two, Nat.mod_eq_of_lt lgx, gE_gL x lx hx0]
        by_cases hbig : 255 < m
        · have hp := gpow_cut x m (m % 255 + 255) hx0 (by omega)
          have hpb : ((gpow x m : Int) == (gpow x (m % 255 + 255) : Nat)) = true := by rw [hp]; exact beq_self_eq_true _
          clear hp
          go_wp2_with fail
          refine (log_any b _ x rfl lx hx0 _ (HF.out.drewN _)).mono ?_
          rintro e w2 ⟨rfl, k, rfl⟩
          go_wp2_with fail
          refine (pow_any b _ _ x m rfl rfl hm0 lx _ (HF.out.drewN _)).mono ?_
          rintro e w2 ⟨rfl, k, rfl⟩
          go_wp2_with fail
          refine (refPow_any _ _ x (m % 255 + 255) rfl (by omega) lx (by omega) _).mono ?_
          rintro e w2 ⟨rfl, rfl⟩
          go_wp2_with fail
          refine (refPow_any 2 _ 2 (gL x) rfl rfl (by omega) (by omega) _).mono ?_
          rintro e w2 ⟨rfl, rfl⟩
          go_wp2
          go_ret
          exact ⟨rfl, by rw [HB.out]; exact below_drewN HBE.out _⟩
        · go_wp2_with fail
          refine (log_any b _ x rfl lx hx0 _ (HF.out.drewN _)).mono ?_
          rintro e w2 ⟨rfl, k, rfl⟩
          go_wp2_with fail
          refine (pow_any b _ _ x m rfl rfl hm0 lx _ (HF.out.drewN _)).mono ?_
          rintro e w2 ⟨rfl, k, rfl⟩
          go_wp2_with fail
          refine (refPow_any _ _ x m rfl rfl lx (by omega) _).mono ?_
          rintro e w2 ⟨rfl, rfl⟩
          go_wp2_with fail
          refine (refPow_any 2 _ 2 (gL x) rfl rfl (by omega) (by omega) _).mono ?_
          rintro e w2 ⟨rfl, rfl⟩
          go_wp2
          go_ret
          exact ⟨rfl, by rw [HB.out]; exact below_drewN HBE.out _⟩
end Go.Proofs.Ytbpfojdlmkbngaa
