/- The field on bytes: the laws without bounds, and sums of products. -/
import Derived.Test.YtdgflbbffimpkaaGfM2
namespace Go.Proofs.Ytdgflbbffimpkaa

/-- The product of bytes. -/
def gm (a b : UInt8) : UInt8 := UInt8.ofNat (gmulN a.toNat b.toNat)
theorem gm_toNat (a b : UInt8) : (gm a b).toNat = gmulN a.toNat b.toNat := by
  unfold gm; rw [UInt8.toNat_ofNat']; exact Nat.mod_eq_of_lt (gmulN_lt _ _)
theorem gm_comm (a b : UInt8) : gm a b = gm b a := by unfold gm; rw [gmulN_comm]
theorem gm_assoc (a b c : UInt8) : gm (gm a b) c = gm a (gm b c) := by
  apply UInt8.toNat_inj.1
  rw [gm_toNat, gm_toNat, gm_toNat, gm_toNat, gmulN_assoc]
theorem gm_xor (a b c : UInt8) : gm a (b ^^^ c) = gm a b ^^^ gm a c := by
  apply UInt8.toNat_inj.1
  rw [gm_toNat, UInt8.toNat_xor, UInt8.toNat_xor, gm_toNat, gm_toNat, gmulN_xor _ _ _ a.toNat_lt b.toNat_lt c.toNat_lt]
theorem xor_gm (a b c : UInt8) : gm (b ^^^ c) a = gm b a ^^^ gm c a := by rw [gm_comm, gm_xor, gm_comm a b, gm_comm a c]
theorem gm_zero (a : UInt8) : gm a 0 = 0 := by unfold gm; rw [UInt8.toNat_zero, gmulN_zero]; rfl
theorem zero_gm (a : UInt8) : gm 0 a = 0 := by rw [gm_comm, gm_zero]
theorem one_gm (a : UInt8) : gm 1 a = a := by
  apply UInt8.toNat_inj.1
  rw [gm_toNat, show (1 : UInt8).toNat = 1 from rfl, one_gmulN _ a.toNat_lt]
theorem gm_one (a : UInt8) : gm a 1 = a := by rw [gm_comm, one_gm]
theorem gm_ne (a b : UInt8) (ha : a ≠ 0) (hb : b ≠ 0) : gm a b ≠ 0 := by
  intro h
  have h2 := congrArg UInt8.toNat h
  rw [gm_toNat] at h2
  exact gmulN_ne _ _ (fun e => ha (UInt8.toNat_inj.1 e)) (fun e => hb (UInt8.toNat_inj.1 e)) h2
theorem gm_left_comm (a b c : UInt8) : gm a (gm b c) = gm b (gm a c) := by rw [← gm_assoc, gm_comm a b, gm_assoc]
theorem x4 (a b c d : UInt8) : (a ^^^ b) ^^^ (c ^^^ d) = (a ^^^ c) ^^^ (b ^^^ d) := by ac_rfl

/-- The sum of the products of the first k places. -/
def dotTo (xs ys : List UInt8) : Nat → UInt8
  | 0 => 0
  | k + 1 => dotTo xs ys k ^^^ gm (xs.getD k 0) (ys.getD k 0)
def dot (xs ys : List UInt8) : UInt8 := dotTo xs ys (min xs.length ys.length)
theorem dotTo_comm (xs ys : List UInt8) (k : Nat) : dotTo xs ys k = dotTo ys xs k := by
  induction k with
  | zero => rfl
  | succ k ih => rw [dotTo, dotTo, ih, gm_comm]
theorem dotTo_congr (xs ys xs' ys' : List UInt8) (k : Nat) (h : ∀ i, i < k → xs.getD i 0 = xs'.getD i 0) (h' : ∀ i, i < k → ys.getD i 0 = ys'.getD i 0) : dotTo xs ys k = dotTo xs' ys' k := by
  induction k with
  | zero => rfl
  | succ k ih => rw [dotTo, dotTo, ih (fun i hi => h i (by omega)) (fun i hi => h' i (by omega)), h k (by omega), h' k (by omega)]
theorem dotTo_xor (xs ys zs ss : List UInt8) (k : Nat) (h : ∀ i, i < k → ss.getD i 0 = xs.getD i 0 ^^^ ys.getD i 0) : dotTo ss zs k = dotTo xs zs k ^^^ dotTo ys zs k := by
  induction k with
  | zero => exact (UInt8.xor_self (a := 0)).symm
  | succ k ih => rw [dotTo, dotTo, dotTo, ih (fun i hi => h i (by omega)), h k (by omega), xor_gm, x4]
theorem dotTo_mul (xs zs ts : List UInt8) (x : UInt8) (k : Nat) (h : ∀ i, i < k → ts.getD i 0 = gm (xs.getD i 0) x) : dotTo ts zs k = gm (dotTo xs zs k) x := by
  induction k with
  | zero => exact (zero_gm x).symm
  | succ k ih => rw [dotTo, dotTo, ih (fun i hi => h i (by omega)), h k (by omega), xor_gm, gm_assoc, gm_assoc, gm_comm x]
end Go.Proofs.Ytdgflbbffimpkaa
