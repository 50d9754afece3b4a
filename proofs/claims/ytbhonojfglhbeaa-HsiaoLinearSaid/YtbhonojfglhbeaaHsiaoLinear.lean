/- HsiaoLinear, walked: for every a, b, x, y the law returns true. -/
import Derived.Test.YtbhonojfglhbeaaHsL
namespace Go.Proofs.Ytbhonojfglhbeaa
open Go.RowKit

set_option maxRecDepth 100000 in
set_option maxHeartbeats 1000000 in
theorem HsiaoLinear_walk (a0 a1 a2 a3 : Int) (w : World) (w0 : (Lit.int .u64 a0).wf = true) (w1 : (Lit.int .u64 a1).wf = true) (_w2 : (Lit.int .i64 a2).wf = true) (_w3 : (Lit.int .i64 a3).wf = true) :
    Calls Try.prog 3 #[.int .u64 a0, .int .u64 a1, .int .i64 a2, .int .i64 a3] w fun e w' => e = .returned (.bool true) ∧ Below w.heap.size w w' := by
  obtain ⟨a, rfl, la⟩ := lit_u64h w0
  obtain ⟨b, rfl, lb⟩ := lit_u64h w1
  clear w0 w1
  have hab := u64_xor_nat a b la lb
  have lab : a ^^^ b < 18446744073709551616 := Nat.xor_lt_two_pow (n := 64) la lb
  have hxy : bits .xor .i64 a2 a3 = xorI a2 a3 := rfl
  have hlin : chk (a ^^^ b) (low (xorI a2 a3)) (low (xorI a2 a3)) = chk a (low a2) (low a3) ^^^ chk b (low a3) (low a2) := by
    rw [low_xorI, ← chk_xor, Nat.xor_comm (low a3)]
  have h0 : chk 0 (low 0) (low 0) = 0 := by unfold chk; rw [show cs 0 = 0 from csTo_zero 64 0]; rfl
  obtain ⟨g, hg⟩ : ∃ g, w.heap.size = g := ⟨_, rfl⟩
  have C1 := fun W h => check_any g a la a2 a3 W h
  have C2 := fun W h => check_any g b lb a3 a2 W h
  have C3 := fun W h => check_any g (a ^^^ b) lab (xorI a2 a3) (xorI a2 a3) W h
  have lP := chk_lt a (low a2) (low a3)
  have lQ := chk_lt b (low a3) (low a2)
  have C4 := fun k lk W h => syndrome_any g a k la lk a2 a3 W h
  have C5 := fun W h => check_any g 0 (by omega) 0 0 W h
  rw [hlin] at C3
  rw [h0] at C5
  obtain ⟨P, hP⟩ : ∃ P, chk a (low a2) (low a3) = P := ⟨_, rfl⟩
  obtain ⟨Q, hQ⟩ : ∃ Q, chk b (low a3) (low a2) = Q := ⟨_, rfl⟩
  rw [hP] at C1 C3 C4 lP
  rw [hQ] at C2 C3 lQ
  have C4' := C4 Q lQ
  have hpq := u8_xorN P Q lP lQ
  obtain ⟨z, hz⟩ : ∃ z, a ^^^ b = z := ⟨_, rfl⟩
  obtain ⟨X, hX⟩ : ∃ X, xorI a2 a3 = X := ⟨_, rfl⟩
  rw [hz] at C3 hab
  rw [hX] at C3 hxy
  have H1 := Lib.hid C1
  have H2 := Lib.hid C2
  have H3 := Lib.hid C3
  have H4 := Lib.hid C4'
  have H5 := Lib.hid C5
  have HN := Lib.hid (new_any w)
  have HGG := Lib.hid hg
  clear C1 C2 C3 C4 C4' C5 hlin h0 hz hX hP hQ lab hg
  go_enter Try.func3, Try.ntmps3
  go_wp2_with fail
  refine HN.out.mono ?_
  rintro e w1 ⟨rfl, hc, hb⟩
  have Hw1 := Lib.hid (HS.new hc hb)
  clear hc hb
  rw [HGG.out] at Hw1 ⊢
  go_wp2_with fail
  refine (anchor_any g w1 Hw1.out.2).mono ?_
  rintro e w2 ⟨rfl, hb⟩
  have Hw2 := Lib.hid (Hw1.out.step hb)
  clear hb
  go_wp2_with fail
  refine (H1.out w2 Hw2.out.2).mono ?_
  rintro e w3 ⟨rfl, hb⟩
  have Hw3 := Lib.hid (Hw2.out.step hb)
  clear hb
  go_wp2_with fail
  refine (H2.out w3 Hw3.out.2).mono ?_
  rintro e w4 ⟨rfl, hb⟩
  have Hw4 := Lib.hid (Hw3.out.step hb)
  clear hb
  go_wp2_with fail
  refine (H3.out w4 Hw4.out.2).mono ?_
  rintro e w5 ⟨rfl, hb⟩
  have Hw5 := Lib.hid (Hw4.out.step hb)
  clear hb
  go_wp2_with fail
  refine (H4.out w5 Hw5.out.2).mono ?_
  rintro e w6 ⟨rfl, hb⟩
  have Hw6 := Lib.hid (Hw5.out.step hb)
  clear hb
  go_wp2_with fail
  refine (H5.out w6 Hw6.out.2).mono ?_
  rintro e w7 ⟨rfl, hb⟩
  have Hw7 := Lib.hid (Hw6.out.step hb)
  clear hb
  go_wp2
  go_ret
  exact ⟨rfl, Hw7.out.1⟩
end Go.Proofs.Ytbhonojfglhbeaa
