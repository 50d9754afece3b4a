/- GfLogs, walked: for every a, b the law returns true. -/
import Derived.Test.YtbpfojdlmkbngabGfD
namespace Go.Proofs.Ytbpfojdlmkbngab
open Go.RowKit

theorem beq_tn {a b : Nat} (h : a = b) : ((a : Int) == (b : Int)) = true := by rw [h]; exact beq_self_eq_true _

set_option maxHeartbeats 1000000 in
set_option maxRecDepth 100000 in
theorem GfLogs_walk (a0 a1 : Int) (w : World) (w0 : (Lit.int .u8 a0).wf = true) (w1 : (Lit.int .u8 a1).wf = true) :
    Calls Try.prog 3 #[.int .u8 a0, .int .u8 a1] w fun e w' => e = .returned (.bool true) ∧ Below w.heap.size w w' := by
  obtain ⟨x, rfl, lx⟩ := lit_u8 w0
  obtain ⟨y, rfl, ly⟩ := lit_u8 w1
  clear w0 w1
  obtain ⟨b, hb⟩ : ∃ b, w.heap.size = b := ⟨_, rfl⟩
  have HB := Lib.hid hb
  by_cases h1 : x = 0
  · subst h1
    go_enter Try.func3, Try.ntmps3
    go_wp2_with fail
    refine (new_any _).mono ?_
    rintro e w1 ⟨rfl, hw1⟩
    have hF : FieldAt w1 b := by rw [hw1, ← HB.out]; exact FieldAt.new w
    have HF := Lib.hid hF
    have hBel : Below b w w1 := by rw [hw1, ← HB.out]; exact (Below.refl _ _).alloc (Nat.le_refl _) _
    clear hF hw1
    rw [hb]
    clear hb
    go_wp2_with fail
    refine (anchor1_any b _ HF.out).mono ?_
    rintro e w2 ⟨rfl, k, rfl⟩
    go_wp2_with fail
    go_wp2
    go_ret
    exact ⟨rfl, by rw [HB.out]; exact below_drewN hBel _⟩
  have g0 : ((x : Int) == 0) = false := beq_eq_false_iff_ne.2 (by omega)
  by_cases h0 : y = 0
  · subst h0
    go_enter Try.func3, Try.ntmps3
    go_wp2_with fail
    refine (new_any _).mono ?_
    rintro e w1 ⟨rfl, hw1⟩
    have hF : FieldAt w1 b := by rw [hw1, ← HB.out]; exact FieldAt.new w
    have HF := Lib.hid hF
    have hBel : Below b w w1 := by rw [hw1, ← HB.out]; exact (Below.refl _ _).alloc (Nat.le_refl _) _
    clear hF hw1
    rw [hb]
    clear hb
    go_wp2_with fail
    refine (anchor1_any b _ HF.out).mono ?_
    rintro e w2 ⟨rfl, k, rfl⟩
    go_wp2_with fail
    go_wp2
    go_ret
    exact ⟨rfl, by rw [HB.out]; exact below_drewN hBel _⟩
  · have g1 : ((y : Int) == 0) = false := beq_eq_false_iff_ne.2 (by omega)
    have ld := gdivN_lt x y
    have lgx := gL_lt x lx
    have lgy := gL_lt y ly
    have e1 : gE ((gL x + gL y) % 255) = gmulN x y := by unfold gmulN; rw [if_neg (by omega)]
    have e2 : gE ((gL x + 255 - gL y) % 255) = gdivN x y := by unfold gdivN; rw [if_neg h1]
    have e3 : gE (gL x) = x := gE_gL x lx h1
    go_enter Try.func3, Try.ntmps3
    go_wp2_with fail
    refine (new_any _).mono ?_
    rintro e w1 ⟨rfl, hw1⟩
    have hF : FieldAt w1 b := by rw [hw1, ← HB.out]; exact FieldAt.new w
    have HF := Lib.hid hF
    have hBel : Below b w w1 := by rw [hw1, ← HB.out]; exact (Below.refl _ _).alloc (Nat.le_refl _) _
    clear hF hw1
    rw [hb]
    clear hb
    go_wp2_with fail
    refine (anchor1_any b _ HF.out).mono ?_
    rintro e w2 ⟨rfl, k, rfl⟩
    go_wp2_with fail
    refine (log_any b _ x rfl lx h1 _ (HF.out.drewN _)).mono ?_
    rintro e w2 ⟨rfl, k, rfl⟩
    go_wp2_with fail
    refine (log_any b _ y rfl ly h0 _ (HF.out.drewN _)).mono ?_
    rintro e w2 ⟨rfl, k, rfl⟩
    go_wp2_with fail
    refine (div_any b _ _ x y rfl rfl lx ly h0 _ (HF.out.drewN _)).mono ?_
    rintro e w2 ⟨rfl, k, rfl⟩
    go_wp2_with fail
    refine (exp_any b _ ((gL x + gL y) % 255) (by omega) _ (HF.out.drewN _)).mono ?_
    rintro e w2 ⟨rfl, k, rfl⟩
    go_wp2_with fail
    refine (refMul_any _ _ x y rfl rfl lx ly _).mono ?_
    rintro e w2 ⟨rfl, rfl⟩
    go_wp2_with fail
    refine (exp_any b _ ((gL x + 255 - gL y) % 255) (by omega) _ (HF.out.drewN _)).mono ?_
    rintro e w2 ⟨rfl, k, rfl⟩
    go_wp2_with fail
    refine (exp_any b _ (gL x) (by omega) _ (HF.out.drewN _)).mono ?_
    rintro e w2 ⟨rfl, k, rfl⟩
    go_wp2_with fail
    refine (exp_any b _ (gL x) (by omega) _ (HF.out.drewN _)).mono ?_
    rintro e w2 ⟨rfl, k, rfl⟩
    go_wp2
    go_ret
    exact ⟨rfl, by rw [HB.out]; exact below_drewN hBel _⟩
end Go.Proofs.Ytbpfojdlmkbngab
