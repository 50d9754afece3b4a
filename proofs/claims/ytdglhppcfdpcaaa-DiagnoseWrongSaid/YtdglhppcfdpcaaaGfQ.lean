/- Several texts in one: GfM GfM2 GfU. -/

namespace Go.Proofs.Ytdglhppcfdpcaaa
set_option maxRecDepth 100000
/-- Twice an element: times x. -/
def xt (a : Nat) : Nat := (a * 2) ^^^ (if a.testBit 7 then 285 else 0)
def expL : List Nat := [1, 2, 4, 8, 16, 32, 64, 128, 29, 58, 116, 232, 205, 135, 19, 38, 76, 152, 45, 90, 180, 117, 234, 201, 143, 3, 6, 12, 24, 48, 96, 192, 157, 39, 78, 156, 37, 74, 148, 53, 106, 212, 181, 119, 238, 193, 159, 35, 70, 140, 5, 10, 20, 40, 80, 160, 93, 186, 105, 210, 185, 111, 222, 161, 95, 190, 97, 194, 153, 47, 94, 188, 101, 202, 137, 15, 30, 60, 120, 240, 253, 231, 211, 187, 107, 214, 177, 127, 254, 225, 223, 163, 91, 182, 113, 226, 217, 175, 67, 134, 17, 34, 68, 136, 13, 26, 52, 104, 208, 189, 103, 206, 129, 31, 62, 124, 248, 237, 199, 147, 59, 118, 236, 197, 151, 51, 102, 204, 133, 23, 46, 92, 184, 109, 218, 169, 79, 158, 33, 66, 132, 21, 42, 84, 168, 77, 154, 41, 82, 164, 85, 170, 73, 146, 57, 114, 228, 213, 183, 115, 230, 209, 191, 99, 198, 145, 63, 126, 252, 229, 215, 179, 123, 246, 241, 255, 227, 219, 171, 75, 150, 49, 98, 196, 149, 55, 110, 220, 165, 87, 174, 65, 130, 25, 50, 100, 200, 141, 7, 14, 28, 56, 112, 224, 221, 167, 83, 166, 81, 162, 89, 178, 121, 242, 249, 239, 195, 155, 43, 86, 172, 69, 138, 9, 18, 36, 72, 144, 61, 122, 244, 245, 247, 243, 251, 235, 203, 139, 11, 22, 44, 88, 176, 125, 250, 233, 207, 131, 27, 54, 108, 216, 173, 71, 142]
def logL : List Nat := [0, 0, 1, 25, 2, 50, 26, 198, 3, 223, 51, 238, 27, 104, 199, 75, 4, 100, 224, 14, 52, 141, 239, 129, 28, 193, 105, 248, 200, 8, 76, 113, 5, 138, 101, 47, 225, 36, 15, 33, 53, 147, 142, 218, 240, 18, 130, 69, 29, 181, 194, 125, 106, 39, 249, 185, 201, 154, 9, 120, 77, 228, 114, 166, 6, 191, 139, 98, 102, 221, 48, 253, 226, 152, 37, 179, 16, 145, 34, 136, 54, 208, 148, 206, 143, 150, 219, 189, 241, 210, 19, 92, 131, 56, 70, 64, 30, 66, 182, 163, 195, 72, 126, 110, 107, 58, 40, 84, 250, 133, 186, 61, 202, 94, 155, 159, 10, 21, 121, 43, 78, 212, 229, 172, 115, 243, 167, 87, 7, 112, 192, 247, 140, 128, 99, 13, 103, 74, 222, 237, 49, 197, 254, 24, 227, 165, 153, 119, 38, 184, 180, 124, 17, 68, 146, 217, 35, 32, 137, 46, 55, 63, 209, 91, 149, 188, 207, 205, 144, 135, 151, 178, 220, 252, 190, 97, 242, 86, 211, 171, 20, 42, 93, 158, 132, 60, 57, 83, 71, 109, 65, 162, 31, 45, 67, 216, 183, 123, 164, 118, 196, 23, 73, 236, 127, 12, 111, 246, 108, 161, 59, 82, 41, 157, 85, 170, 251, 96, 134, 177, 187, 204, 62, 90, 203, 89, 95, 176, 156, 169, 160, 81, 11, 245, 22, 235, 122, 117, 44, 215, 79, 174, 213, 233, 230, 231, 173, 232, 116, 214, 244, 234, 168, 80, 88, 175]
def gE (i : Nat) : Nat := expL.getD i 0
def gL (a : Nat) : Nat := logL.getD a 0
theorem gE_gL : ∀ a, a < 256 → a ≠ 0 → gE (gL a) = a := by decide +kernel
theorem gL_gE : ∀ i, i < 255 → gL (gE i) = i := by decide +kernel
theorem gE_pos : ∀ i, i < 255 → 0 < gE i ∧ gE i < 256 := by decide +kernel
theorem gL_lt : ∀ i, i < 256 → gL i < 255 := by decide +kernel
theorem xt_gE : ∀ i, i < 255 → xt (gE i) = gE ((i + 1) % 255) := by decide +kernel
theorem expL_len : expL.length = 255 := by decide +kernel
/-- The program's product. -/
def gmulN (a b : Nat) : Nat := if a = 0 ∨ b = 0 then 0 else gE ((gL a + gL b) % 255)

theorem mul2_xor (a b : Nat) : (a ^^^ b) * 2 = (a * 2) ^^^ (b * 2) := by
  have h := @Nat.shiftLeft_xor_distrib 1 a b
  simpa [Nat.shiftLeft_eq] using h
theorem if_xor (a b : Nat) (i k : Nat) : (if (a ^^^ b).testBit i then k else 0) = (if a.testBit i then k else 0) ^^^ (if b.testBit i then k else 0) := by
  rw [Nat.testBit_xor]
  cases a.testBit i <;> cases b.testBit i <;> simp
theorem xor4 (a b c d : Nat) : (a ^^^ b) ^^^ (c ^^^ d) = (a ^^^ c) ^^^ (b ^^^ d) := by
  ac_rfl
theorem xt_xor (a b : Nat) : xt (a ^^^ b) = xt a ^^^ xt b := by
  unfold xt
  rw [mul2_xor, if_xor, xor4]
theorem xt_zero : xt 0 = 0 := by decide
theorem gmulN_lt (a b : Nat) : gmulN a b < 256 := by
  unfold gmulN
  split
  · omega
  · exact (gE_pos _ (Nat.mod_lt _ (by omega))).2
theorem gmulN_comm (a b : Nat) : gmulN a b = gmulN b a := by
  unfold gmulN
  rw [Nat.add_comm (gL a)]
  simp only [or_comm]
theorem gmulN_zero (a : Nat) : gmulN a 0 = 0 := by simp [gmulN]
theorem zero_gmulN (a : Nat) : gmulN 0 a = 0 := by simp [gmulN]
theorem gmulN_gE (i b : Nat) (hi : i < 255) (hb0 : b ≠ 0) : gmulN (gE i) b = gE ((i + gL b) % 255) := by
  have h := gE_pos i hi
  unfold gmulN
  rw [if_neg (by omega), gL_gE i hi]
theorem gmulN_ne (a b : Nat) (ha : a ≠ 0) (hb : b ≠ 0) : gmulN a b ≠ 0 := by
  unfold gmulN
  rw [if_neg (by omega)]
  have := (gE_pos ((gL a + gL b) % 255) (Nat.mod_lt _ (by omega))).1
  omega
theorem gL_gmulN (a b : Nat) (ha : a ≠ 0) (hb : b ≠ 0) : gL (gmulN a b) = (gL a + gL b) % 255 := by
  unfold gmulN
  rw [if_neg (by omega), gL_gE _ (Nat.mod_lt _ (by omega))]
theorem gmulN_assoc (a b c : Nat) : gmulN (gmulN a b) c = gmulN a (gmulN b c) := by
  by_cases ha : a = 0
  · subst ha; simp [zero_gmulN]
  by_cases hb : b = 0
  · subst hb; simp [zero_gmulN, gmulN_zero]
  by_cases hc : c = 0
  · subst hc; simp [gmulN_zero]
  have h1 := gmulN_ne a b ha hb
  have h2 := gmulN_ne b c hb hc
  have e1 : gmulN (gmulN a b) c = gE ((gL (gmulN a b) + gL c) % 255) := by rw [gmulN, if_neg (by omega)]
  have e2 : gmulN a (gmulN b c) = gE ((gL a + gL (gmulN b c)) % 255) := by rw [gmulN, if_neg (by omega)]
  rw [e1, e2, gL_gmulN a b ha hb, gL_gmulN b c hb hc]
  congr 1
  omega
theorem gmulN_step (i b : Nat) (hi : i + 1 < 255) : gmulN (gE (i + 1)) b = xt (gmulN (gE i) b) := by
  by_cases hb : b = 0
  · subst hb; simp [gmulN_zero, xt_zero]
  · rw [gmulN_gE _ _ hi hb, gmulN_gE _ _ (by omega) hb, xt_gE _ (Nat.mod_lt _ (by omega))]
    congr 1
    omega
theorem gE_zero : gE 0 = 1 := by decide
theorem one_gmulN (b : Nat) (hb : b < 256) : gmulN 1 b = b := by
  by_cases h : b = 0
  · subst h; rfl
  · have := gL_lt b hb
    rw [← gE_zero, gmulN_gE 0 b (by omega) h, Nat.zero_add, Nat.mod_eq_of_lt this, gE_gL b hb h]
theorem gmulN_gE_xor (i : Nat) : i < 255 → ∀ b c, b < 256 → c < 256 → gmulN (gE i) (b ^^^ c) = gmulN (gE i) b ^^^ gmulN (gE i) c := by
  induction i with
  | zero =>
    intro _ b c hb hc
    have hx : b ^^^ c < 256 := Nat.xor_lt_two_pow (n := 8) hb hc
    rw [gE_zero, one_gmulN _ hx, one_gmulN _ hb, one_gmulN _ hc]
  | succ i ih =>
    intro hi b c hb hc
    rw [gmulN_step _ _ hi, gmulN_step _ _ hi, gmulN_step _ _ hi, ih (by omega) b c hb hc, xt_xor]
theorem gmulN_xor (a b c : Nat) (ha : a < 256) (hb : b < 256) (hc : c < 256) : gmulN a (b ^^^ c) = gmulN a b ^^^ gmulN a c := by
  by_cases h : a = 0
  · subst h; simp [zero_gmulN]
  · have := gL_lt a ha
    rw [← gE_gL a ha h]
    exact gmulN_gE_xor _ this b c hb hc
end Go.Proofs.Ytdglhppcfdpcaaa
namespace Go.Proofs.Ytdglhppcfdpcaaa

def gdivN (x y : Nat) : Nat := if x = 0 then 0 else gE ((gL x + 255 - gL y) % 255)
theorem gdivN_lt (x y : Nat) : gdivN x y < 256 := by
  unfold gdivN; split
  · omega
  · exact (gE_pos _ (Nat.mod_lt _ (by omega))).2
theorem gdivN_mul (x y : Nat) (lx : x < 256) (ly : y < 256) (hy : y ≠ 0) : gmulN (gdivN x y) y = x := by
  unfold gdivN; split
  · rename_i h; rw [h, zero_gmulN]
  · rename_i h
    have h1 := gL_lt x lx
    have h2 := gL_lt y ly
    rw [gmulN_gE _ _ (Nat.mod_lt _ (by omega)) hy, show ((gL x + 255 - gL y) % 255 + gL y) % 255 = gL x from by omega, gE_gL x lx h]
end Go.Proofs.Ytdglhppcfdpcaaa
namespace Go.Proofs.Ytdglhppcfdpcaaa

/-- The product of bytes. -/
def gm (a b : UInt8) : UInt8 := UInt8.ofNat (gmulN a.toNat b.toNat)
theorem gm_toNat (a b : UInt8) : (gm a b).toNat = gmulN a.toNat b.toNat := by
  unfold gm; rw [UInt8.toNat_ofNat']; exact Nat.mod_eq_of_lt (gmulN_lt _ _)
theorem gm_comm (a b : UInt8) : gm a b = gm b a := by unfold gm; rw [gmulN_comm]
theorem gm_assoc (a b c : UInt8) : gm (gm a b) c = gm a (gm b c) := by
  apply UInt8.toNat_inj.1
  rw [gm_toNat, gm_toNat, gm_toNat, gm_toNat, gmulN_assoc]
theorem gm_xor (a b c : UInt8) : gm a (b ^^^ c) = gm a b ^^^ gm a c := by
  apply UInt8.toNat_inj.1
  rw [gm_toNat, UInt8.toNat_xor, UInt8.toNat_xor, gm_toNat, gm_toNat, gmulN_xor _ _ _ a.toNat_lt b.toNat_lt c.toNat_lt]
theorem xor_gm (a b c : UInt8) : gm (b ^^^ c) a = gm b a ^^^ gm c a := by rw [gm_comm, gm_xor, gm_comm a b, gm_comm a c]
theorem gm_zero (a : UInt8) : gm a 0 = 0 := by unfold gm; rw [UInt8.toNat_zero, gmulN_zero]; rfl
theorem zero_gm (a : UInt8) : gm 0 a = 0 := by rw [gm_comm, gm_zero]
theorem one_gm (a : UInt8) : gm 1 a = a := by
  apply UInt8.toNat_inj.1
  rw [gm_toNat, show (1 : UInt8).toNat = 1 from rfl, one_gmulN _ a.toNat_lt]
theorem gm_one (a : UInt8) : gm a 1 = a := by rw [gm_comm, one_gm]
theorem gm_ne (a b : UInt8) (ha : a ≠ 0) (hb : b ≠ 0) : gm a b ≠ 0 := by
  intro h
  have h2 := congrArg UInt8.toNat h
  rw [gm_toNat] at h2
  exact gmulN_ne _ _ (fun e => ha (UInt8.toNat_inj.1 e)) (fun e => hb (UInt8.toNat_inj.1 e)) h2
theorem gm_left_comm (a b c : UInt8) : gm a (gm b c) = gm b (gm a c) := by rw [← gm_assoc, gm_comm a b, gm_assoc]
theorem x4 (a b c d : UInt8) : (a ^^^ b) ^^^ (c ^^^ d) = (a ^^^ c) ^^^ (b ^^^ d) := by ac_rfl

end Go.Proofs.Ytdglhppcfdpcaaa
