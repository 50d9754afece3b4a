/- GfField, walked: for every a, b, c the law returns true. -/
import Derived.Test.YtbpfojdlmkbngaaGfL
namespace Go.Proofs.Ytbpfojdlmkbngaa
open Go.RowKit

theorem u8_xor (a b : Nat) (ha : a < 256) (hb : b < 256) : bits .xor .u8 (a : Int) (b : Int) = ((a ^^^ b : Nat) : Int) := by
  have hx : a ^^^ b < 2 ^ 8 := Nat.xor_lt_two_pow ha hb
  have h8 : ∀ c : Nat, c < 256 → (BitVec.ofInt 8 (c : Int)).toNat = c := by
    intro c hc
    rw [BitVec.ofInt_natCast, BitVec.toNat_ofNat]; exact Nat.mod_eq_of_lt (by omega)
  show IntKind.u8.wrap ((BitVec.ofInt 8 (a : Int) ^^^ BitVec.ofInt 8 (b : Int)).toNat : Int) = _
  rw [BitVec.toNat_xor, h8 a ha, h8 b hb]
  exact IntWalk.u8_in _ (by omega)

theorem beq_t {a b : Nat} (h : a = b) : ((a : Int) == (b : Int)) = true := by rw [h]; exact beq_self_eq_true _

set_option maxHeartbeats 1000000 in
set_option maxRecDepth 100000 in
theorem GfField_walk (a0 a1 a2 : Int) (w : World) (w0 : (Lit.int .u8 a0).wf = true) (w1 : (Lit.int .u8 a1).wf = true) (w2 : (Lit.int .u8 a2).wf = true) :
    Calls Try.prog 6 #[.int .u8 a0, .int .u8 a1, .int .u8 a2] w fun e w' => e = .returned (.bool true) ∧ Below w.heap.size w w' := by
  obtain ⟨x, rfl, lx⟩ := lit_u8 w0
  obtain ⟨y, rfl, ly⟩ := lit_u8 w1
  obtain ⟨z, rfl, lz⟩ := lit_u8 w2
  clear w0 w1 w2
  have hx1 := u8_xor y z ly lz
  have hx2 := u8_xor (gmulN x y) (gmulN x z) (gmulN_lt _ _) (gmulN_lt _ _)
  have lyz : y ^^^ z < 256 := Nat.xor_lt_two_pow (n := 8) ly lz
  have c1 := beq_t (gmulN_comm x y)
  have c2 := beq_t (gmulN_assoc x y z)
  have c3 := beq_t (gmulN_xor x y z lx ly lz)
  have c4 : gmulN x 1 = x := by rw [gmulN_comm]; exact one_gmulN x lx
  have mm := fun i j => gmulN_lt i j
  have MM := Lib.hid mm
  clear mm
  obtain ⟨b, hb⟩ : ∃ b, w.heap.size = b := ⟨_, rfl⟩
  have HB := Lib.hid hb
  by_cases h0 : x = 0
  · have c5 : gmulN x y = 0 := by rw [h0]; exact zero_gmulN y
    have c6 : ((x : Int) == 0) = true := by rw [h0]; rfl
    clear h0
    have C5 := Lib.hid c5
    clear c5
    have c7 : ((gmulN x y : Int) != 0) = false := by rw [C5.out]; rfl
    go_enter Try.func6, Try.ntmps6
    go_wp2_with fail
    refine (new_any _).mono ?_
    rintro e w1 ⟨rfl, hw1⟩
    have hF : FieldAt w1 b := by rw [hw1, ← HB.out]; exact FieldAt.new w
    have HF := Lib.hid hF
    have hBel : Below b w w1 := by rw [hw1, ← HB.out]; exact (Below.refl _ _).alloc (Nat.le_refl _) _
    clear hF hw1
    rw [hb]
    clear hb
    go_wp2_with fail
    refine (anchor1_any b _ HF.out).mono ?_
    rintro e w2 ⟨rfl, k, rfl⟩
    go_wp2_with fail
    refine (mul_any b _ _ x y rfl rfl lx ly _ (HF.out.drewN _)).mono ?_
    rintro e w2 ⟨rfl, k, rfl⟩
    go_wp2_with fail
    refine (mul_any b _ _ y x rfl rfl ly lx _ (HF.out.drewN _)).mono ?_
    rintro e w2 ⟨rfl, k, rfl⟩
    go_wp2_with fail
    refine (mul_any b _ _ x y rfl rfl lx ly _ (HF.out.drewN _)).mono ?_
    rintro e w2 ⟨rfl, k, rfl⟩
    go_wp2_with fail
    refine (mul_any b _ _ _ z rfl rfl (MM.out _ _) lz _ (HF.out.drewN _)).mono ?_
    rintro e w2 ⟨rfl, k, rfl⟩
    go_wp2_with fail
    refine (mul_any b _ _ y z rfl rfl ly lz _ (HF.out.drewN _)).mono ?_
    rintro e w2 ⟨rfl, k, rfl⟩
    go_wp2_with fail
    refine (mul_any b _ _ x _ rfl rfl lx (MM.out _ _) _ (HF.out.drewN _)).mono ?_
    rintro e w2 ⟨rfl, k, rfl⟩
    go_wp2_with fail
    refine (mul_any b _ _ x (y ^^^ z) rfl rfl lx lyz _ (HF.out.drewN _)).mono ?_
    rintro e w2 ⟨rfl, k, rfl⟩
    go_wp2_with fail
    refine (mul_any b _ _ x y rfl rfl lx ly _ (HF.out.drewN _)).mono ?_
    rintro e w2 ⟨rfl, k, rfl⟩
    go_wp2_with fail
    refine (mul_any b _ _ x z rfl rfl lx lz _ (HF.out.drewN _)).mono ?_
    rintro e w2 ⟨rfl, k, rfl⟩
    go_wp2_with fail
    refine (mul_any b _ 1 x 1 rfl rfl lx (by omega) _ (HF.out.drewN _)).mono ?_
    rintro e w2 ⟨rfl, k, rfl⟩
    go_wp2_with fail
    refine (mul_any b _ _ x y rfl rfl lx ly _ (HF.out.drewN _)).mono ?_
    rintro e w2 ⟨rfl, k, rfl⟩
    go_wp2
    go_ret
    exact ⟨rfl, by rw [HB.out]; exact below_drewN hBel _⟩
  by_cases h1 : y = 0
  · have c5 : gmulN x y = 0 := by rw [h1]; exact gmulN_zero x
    have c6 : ((y : Int) == 0) = true := by rw [h1]; rfl
    have c8 : ((x : Int) == 0) = false := beq_eq_false_iff_ne.2 (by omega)
    clear h1 h0
    have C5 := Lib.hid c5
    clear c5
    have c7 : ((gmulN x y : Int) != 0) = false := by rw [C5.out]; rfl
    go_enter Try.func6, Try.ntmps6
    go_wp2_with fail
    refine (new_any _).mono ?_
    rintro e w1 ⟨rfl, hw1⟩
    have hF : FieldAt w1 b := by rw [hw1, ← HB.out]; exact FieldAt.new w
    have HF := Lib.hid hF
    have hBel : Below b w w1 := by rw [hw1, ← HB.out]; exact (Below.refl _ _).alloc (Nat.le_refl _) _
    clear hF hw1
    rw [hb]
    clear hb
    go_wp2_with fail
    refine (anchor1_any b _ HF.out).mono ?_
    rintro e w2 ⟨rfl, k, rfl⟩
    go_wp2_with fail
    refine (mul_any b _ _ x y rfl rfl lx ly _ (HF.out.drewN _)).mono ?_
    rintro e w2 ⟨rfl, k, rfl⟩
    go_wp2_with fail
    refine (mul_any b _ _ y x rfl rfl ly lx _ (HF.out.drewN _)).mono ?_
    rintro e w2 ⟨rfl, k, rfl⟩
    go_wp2_with fail
    refine (mul_any b _ _ x y rfl rfl lx ly _ (HF.out.drewN _)).mono ?_
    rintro e w2 ⟨rfl, k, rfl⟩
    go_wp2_with fail
    refine (mul_any b _ _ _ z rfl rfl (MM.out _ _) lz _ (HF.out.drewN _)).mono ?_
    rintro e w2 ⟨rfl, k, rfl⟩
    go_wp2_with fail
    refine (mul_any b _ _ y z rfl rfl ly lz _ (HF.out.drewN _)).mono ?_
    rintro e w2 ⟨rfl, k, rfl⟩
    go_wp2_with fail
    refine (mul_any b _ _ x _ rfl rfl lx (MM.out _ _) _ (HF.out.drewN _)).mono ?_
    rintro e w2 ⟨rfl, k, rfl⟩
    go_wp2_with fail
    refine (mul_any b _ _ x (y ^^^ z) rfl rfl lx lyz _ (HF.out.drewN _)).mono ?_
    rintro e w2 ⟨rfl, k, rfl⟩
    go_wp2_with fail
    refine (mul_any b _ _ x y rfl rfl lx ly _ (HF.out.drewN _)).mono ?_
    rintro e w2 ⟨rfl, k, rfl⟩
    go_wp2_with fail
    refine (mul_any b _ _ x z rfl rfl lx lz _ (HF.out.drewN _)).mono ?_
    rintro e w2 ⟨rfl, k, rfl⟩
    go_wp2_with fail
    refine (mul_any b _ 1 x 1 rfl rfl lx (by omega) _ (HF.out.drewN _)).mono ?_
    rintro e w2 ⟨rfl, k, rfl⟩
    go_wp2_with fail
    refine (mul_any b _ _ x y rfl rfl lx ly _ (HF.out.drewN _)).mono ?_
    rintro e w2 ⟨rfl, k, rfl⟩
    go_wp2
    go_ret
    exact ⟨rfl, by rw [HB.out]; exact below_drewN hBel _⟩
  · have c5 : ((gmulN x y : Int) != 0) = true := by
      have := gmulN_ne x y (by omega) (by omega)
      rw [bne_iff_ne]; omega
    go_enter Try.func6, Try.ntmps6
    go_wp2_with fail
    refine (new_any _).mono ?_
    rintro e w1 ⟨rfl, hw1⟩
    have hF : FieldAt w1 b := by rw [hw1, ← HB.out]; exact FieldAt.new w
    have HF := Lib.hid hF
    have hBel : Below b w w1 := by rw [hw1, ← HB.out]; exact (Below.refl _ _).alloc (Nat.le_refl _) _
    clear hF hw1
    rw [hb]
    clear hb
    go_wp2_with fail
    refine (anchor1_any b _ HF.out).mono ?_
    rintro e w2 ⟨rfl, k, rfl⟩
    go_wp2_with fail
    refine (mul_any b _ _ x y rfl rfl lx ly _ (HF.out.drewN _)).mono ?_
    rintro e w2 ⟨rfl, k, rfl⟩
    go_wp2_with fail
    refine (mul_any b _ _ y x rfl rfl ly lx _ (HF.out.drewN _)).mono ?_
    rintro e w2 ⟨rfl, k, rfl⟩
    go_wp2_with fail
    refine (mul_any b _ _ x y rfl rfl lx ly _ (HF.out.drewN _)).mono ?_
    rintro e w2 ⟨rfl, k, rfl⟩
    go_wp2_with fail
    refine (mul_any b _ _ _ z rfl rfl (MM.out _ _) lz _ (HF.out.drewN _)).mono ?_
    rintro e w2 ⟨rfl, k, rfl⟩
    go_wp2_with fail
    refine (mul_any b _ _ y z rfl rfl ly lz _ (HF.out.drewN _)).mono ?_
    rintro e w2 ⟨rfl, k, rfl⟩
    go_wp2_with fail
    refine (mul_any b _ _ x _ rfl rfl lx (MM.out _ _) _ (HF.out.drewN _)).mono ?_
    rintro e w2 ⟨rfl, k, rfl⟩
    go_wp2_with fail
    refine (mul_any b _ _ x (y ^^^ z) rfl rfl lx lyz _ (HF.out.drewN _)).mono ?_
    rintro e w2 ⟨rfl, k, rfl⟩
    go_wp2_with fail
    refine (mul_any b _ _ x y rfl rfl lx ly _ (HF.out.drewN _)).mono ?_
    rintro e w2 ⟨rfl, k, rfl⟩
    go_wp2_with fail
    refine (mul_any b _ _ x z rfl rfl lx lz _ (HF.out.drewN _)).mono ?_
    rintro e w2 ⟨rfl, k, rfl⟩
    go_wp2_with fail
    refine (mul_any b _ 1 x 1 rfl rfl lx (by omega) _ (HF.out.drewN _)).mono ?_
    rintro e w2 ⟨rfl, k, rfl⟩
    go_wp2_with fail
    refine (mul_any b _ _ x y rfl rfl lx ly _ (HF.out.drewN _)).mono ?_
    rintro e w2 ⟨rfl, k, rfl⟩
    go_wp2
    go_ret
    exact ⟨rfl, by rw [HB.out]; exact below_drewN hBel _⟩
end Go.Proofs.Ytbpfojdlmkbngaa
