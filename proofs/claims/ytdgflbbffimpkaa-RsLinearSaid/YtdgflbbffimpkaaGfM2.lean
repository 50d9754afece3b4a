/- The field in plain numbers, second part: quotients and powers. -/
import Derived.Test.YtdgflbbffimpkaaGfM
namespace Go.Proofs.Ytdgflbbffimpkaa

def gdivN (x y : Nat) : Nat := if x = 0 then 0 else gE ((gL x + 255 - gL y) % 255)
theorem gdivN_lt (x y : Nat) : gdivN x y < 256 := by
  unfold gdivN; split
  · omega
  · exact (gE_pos _ (Nat.mod_lt _ (by omega))).2
theorem gdivN_mul (x y : Nat) (lx : x < 256) (ly : y < 256) (hy : y ≠ 0) : gmulN (gdivN x y) y = x := by
  unfold gdivN; split
  · rename_i h; rw [h, zero_gmulN]
  · rename_i h
    have h1 := gL_lt x lx
    have h2 := gL_lt y ly
    rw [gmulN_gE _ _ (Nat.mod_lt _ (by omega)) hy, show ((gL x + 255 - gL y) % 255 + gL y) % 255 = gL x from by omega, gE_gL x lx h]
theorem gmulN_cancel (q r y : Nat) (lq : q < 256) (lr : r < 256) (hy : y ≠ 0) (ly : y < 256) (h : gmulN q y = gmulN r y) : q = r := by
  by_cases h0 : q = 0
  · subst h0
    rw [zero_gmulN] at h
    by_cases h1 : r = 0
    · exact h1.symm
    · exact absurd h.symm (gmulN_ne r y h1 hy)
  · by_cases h1 : r = 0
    · subst h1
      rw [zero_gmulN] at h
      exact absurd h (gmulN_ne q y h0 hy)
    · have e := congrArg gL h
      rw [gL_gmulN q y h0 hy, gL_gmulN r y h1 hy] at e
      have l1 := gL_lt q lq
      have l2 := gL_lt r lr
      have l3 := gL_lt y ly
      rw [← gE_gL q lq h0, ← gE_gL r lr h1, show gL q = gL r from by omega]
theorem gdivN_uniq (q x y : Nat) (lq : q < 256) (lx : x < 256) (ly : y < 256) (hy : y ≠ 0) (h : gmulN q y = x) : q = gdivN x y :=
  gmulN_cancel q _ y lq (gdivN_lt _ _) hy ly (h.trans (gdivN_mul x y lx ly hy).symm)

/-- An element taken n times. -/
def gpow (a : Nat) : Nat → Nat
  | 0 => 1
  | n + 1 => gmulN (gpow a n) a
theorem gpow_lt (a n : Nat) : gpow a n < 256 := by
  cases n with
  | zero => exact (by omega : 1 < 256)
  | succ n => exact gmulN_lt _ _
theorem gpow_gE (a n : Nat) (ha : a ≠ 0) : gpow a n = gE ((gL a * n) % 255) := by
  induction n with
  | zero => rw [Nat.mul_zero]; exact gE_zero.symm
  | succ n ih =>
    rw [gpow, ih, gmulN_gE _ _ (Nat.mod_lt _ (by omega)) ha, Nat.mul_succ]
    congr 1
    omega
theorem gpow_zero_base (n : Nat) (h : 0 < n) : gpow 0 n = 0 := by
  cases n with
  | zero => omega
  | succ n => rw [gpow, gmulN_zero]
theorem mul_mod_cut (a n : Nat) : (a * (n % 255)) % 255 = (a * n) % 255 := by rw [Nat.mul_mod, Nat.mod_mod, ← Nat.mul_mod]
theorem gpow_cut (a n m : Nat) (ha : a ≠ 0) (h : n % 255 = m % 255) : gpow a n = gpow a m := by
  rw [gpow_gE a n ha, gpow_gE a m ha, ← mul_mod_cut _ n, ← mul_mod_cut _ m, h]
theorem gpow_two (i : Nat) : gpow 2 i = gE (i % 255) := by
  rw [gpow_gE 2 i (by omega), show gL 2 = 1 from by decide, Nat.one_mul]
end Go.Proofs.Ytdgflbbffimpkaa
