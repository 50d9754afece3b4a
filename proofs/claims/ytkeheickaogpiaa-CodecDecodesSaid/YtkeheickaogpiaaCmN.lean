/- Virtual symbols: the document's and the program's. Plain mathematics. -/
import Derived.Test.YtkeheickaogpiaaCdJ
import Derived.Test.YtkeheickaogpiaaCmA
namespace Go.Proofs.Ytkeheickaogpiaa
open Go Go.RowKit Go.Shelf

theorem lo_u64 (x : Int) : u64N x % 8388608 = lo23 x := by unfold u64N lo23; omega
theorem u8I_lo0 (x : Int) : u8I x = UInt8.ofNat (lo23 x % 256) := by
  apply UInt8.toNat_inj.1
  have h := u8I_toNat x
  rw [UInt8.toNat_ofNat']
  unfold lo23
  omega
theorem u8I_lo1 (x : Int) : u8I (x / 256) = UInt8.ofNat (lo23 x / 256 % 256) := by
  apply UInt8.toNat_inj.1
  have h := u8I_toNat (x / 256)
  rw [UInt8.toNat_ofNat']
  unfold lo23
  omega
theorem u8I_lo2 (x : Int) : u8I (x / 65536) &&& 127 = UInt8.ofNat (lo23 x / 65536) := by
  apply UInt8.toNat_inj.1
  have h := u8I_toNat (x / 65536)
  have h3 := lo23_lt x
  rw [UInt8.toNat_and, show (127 : UInt8).toNat = 2 ^ 7 - 1 from rfl, Nat.and_two_pow_sub_one_eq_mod, UInt8.toNat_ofNat']
  unfold lo23
  omega
theorem or128 : ∀ n, n < 128 → UInt8.ofNat n ||| 128 = UInt8.ofNat (n + 128) := by decide +kernel
theorem rvirt_eq (x : Int) (p : Bool) : rvirt_0 x p = dvirt_0 x p := by
  have h3 := lo23_lt x
  unfold rvirt_0 dvirt_0
  rw [lo_u64, u8I_lo0, u8I_lo1, u8I_lo2]
  cases p
  · rw [cond_false, cond_false]
  · rw [cond_true, cond_true, or128 _ (by omega), show (lo23 x + 8388608) % 256 = lo23 x % 256 by omega, show (lo23 x + 8388608) / 256 % 256 = lo23 x / 256 % 256 by omega, show (lo23 x + 8388608) / 65536 = lo23 x / 65536 + 128 by omega]
    rfl
theorem pcTo_low (j n : Nat) : pcTo j (n % 2 ^ j) = pcTo j n := by
  have h := pcTo_split j 0 n
  rw [Nat.add_zero, pcTo, Nat.add_zero] at h
  exact h.symm
theorem lo23_pc (x : Int) : pc (lo23 x) = pc (UInt8.ofNat (lo23 x % 256)).toNat + pc (UInt8.ofNat (lo23 x / 256 % 256)).toNat + pc (UInt8.ofNat (lo23 x / 65536)).toNat := by
  have h3 := lo23_lt x
  have e : ∀ n, n < 256 → (UInt8.ofNat n).toNat = n := fun n h => by rw [UInt8.toNat_ofNat']; exact Nat.mod_eq_of_lt h
  rw [e _ (by omega), e _ (by omega), e _ (by omega), ← pcTo_eq 24 _ (by omega) (by decide), ← pcTo_eq 8 (lo23 x % 256) (by omega) (by decide), ← pcTo_eq 8 (lo23 x / 256 % 256) (by omega) (by decide), ← pcTo_eq 8 (lo23 x / 65536) (by omega) (by decide)]
  have s1 := pcTo_split 8 16 (lo23 x)
  have s2 := pcTo_split 8 8 (lo23 x / 2 ^ 8)
  have e1 : lo23 x / 2 ^ 8 / 2 ^ 8 = lo23 x / 65536 := by omega
  rw [e1] at s2
  rw [show (24 : Nat) = 8 + 16 from rfl, s1, show (16 : Nat) = 8 + 8 from rfl, s2, ← Nat.add_assoc]
theorem virt_0n (x : Int) : (dvirt_0 x false).getD 0 0 = UInt8.ofNat (lo23 x % 256) := u8I_lo0 x
theorem virt_1n (x : Int) : (dvirt_0 x false).getD 1 0 = UInt8.ofNat (lo23 x / 256 % 256) := u8I_lo1 x
theorem virt_2n (x : Int) : (dvirt_0 x false).getD 2 0 = UInt8.ofNat (lo23 x / 65536) := u8I_lo2 x
/-- The parity of unlike bits of two indexes. -/
theorem par_xor (x y : Int) : (pc ((dvirt_0 x false).getD 0 0 ^^^ (dvirt_0 y false).getD 0 0).toNat + pc ((dvirt_0 x false).getD 1 0 ^^^ (dvirt_0 y false).getD 1 0).toNat + pc ((dvirt_0 x false).getD 2 0 ^^^ (dvirt_0 y false).getD 2 0).toNat) % 2 = (par23 x + par23 y) % 2 := by
  have hx := lo23_pc x
  have hy := lo23_pc y
  unfold par23
  rw [virt_0n, virt_1n, virt_2n, virt_0n, virt_1n, virt_2n, UInt8.toNat_xor, UInt8.toNat_xor, UInt8.toNat_xor]
  have h0 := pc_xor (UInt8.ofNat (lo23 x % 256)).toNat (UInt8.ofNat (lo23 y % 256)).toNat
  have h1 := pc_xor (UInt8.ofNat (lo23 x / 256 % 256)).toNat (UInt8.ofNat (lo23 y / 256 % 256)).toNat
  have h2 := pc_xor (UInt8.ofNat (lo23 x / 65536)).toNat (UInt8.ofNat (lo23 y / 65536)).toNat
  omega
end Go.Proofs.Ytkeheickaogpiaa
