/- One bit of a list of bytes: the reference's walk. -/
import Derived.Test.YtckhkagkpldoiaaBitR
import Derived.Test.YtckhkagkpldoiaaMem
namespace Go.Proofs.Ytckhkagkpldoiaa
open Go.RowKit

/-- Bit i of a list of bytes; none beyond it, and none below. -/
def bitI (xs : List UInt8) (i : Int) : Nat := if i < 0 then 0 else (xs.getD (i.toNat / 8) 0).toNat / 2 ^ (i.toNat % 8) % 2
theorem bitI_neg {xs : List UInt8} {i : Int} (h : i < 0) : bitI xs i = 0 := if_pos h
theorem bitI_nat (xs : List UInt8) (p : Nat) : bitI xs (p : Int) = (xs.getD (p / 8) 0).toNat / 2 ^ (p % 8) % 2 := by
  unfold bitI; rw [if_neg (by omega)]; rfl
theorem bitI_far {xs : List UInt8} {p : Nat} (h : xs.length ≤ p / 8) : bitI xs (p : Int) = 0 := by
  rw [bitI_nat, List.getD_eq_getElem?_getD, List.getElem?_eq_none h]; simp
theorem bitI_lt (xs : List UInt8) (i : Int) : bitI xs i < 2 := by
  unfold bitI; split <;> omega

theorem i64_and1g (n : Nat) (h : n < 9223372036854775808) : bits .and .i64 (n : Int) 1 = ((n % 2 : Nat) : Int) := by
  have h2 : ∀ c : Nat, c < 9223372036854775808 → (BitVec.ofInt 64 (c : Int)).toNat = c := by
    intro c hc
    rw [BitVec.ofInt_natCast, BitVec.toNat_ofNat]; exact Nat.mod_eq_of_lt (by omega)
  show IntKind.i64.wrap ((BitVec.ofInt 64 (n : Int) &&& BitVec.ofInt 64 ((1 : Nat) : Int)).toNat : Int) = _
  rw [BitVec.toNat_and, h2 n h, h2 1 (by omega), IntKind.wrap_i64, Nat.and_one_is_mod]
  omega
theorem i64_and7 (p : Nat) (h : p < 9223372036854775808) : bits .and .i64 (p : Int) 7 = ((p % 8 : Nat) : Int) := by
  have h64 : ∀ c : Nat, c < 9223372036854775808 → (BitVec.ofInt 64 (c : Int)).toNat = c := by
    intro c hc
    rw [BitVec.ofInt_natCast, BitVec.toNat_ofNat]; exact Nat.mod_eq_of_lt (by omega)
  show IntKind.i64.wrap ((BitVec.ofInt 64 (p : Int) &&& BitVec.ofInt 64 ((7 : Nat) : Int)).toNat : Int) = _
  rw [BitVec.toNat_and, h64 _ h, h64 7 (by omega), show p &&& 7 = p % 8 from Nat.and_two_pow_sub_one_eq_mod p 3]
  rw [IntKind.wrap_i64]; omega

set_option maxRecDepth 100000 in
theorem get_any (A : Option Addr) (n c : Nat) (xs : List UInt8) (hn : xs.length = n) (i : Int) (h0 : -9223372036854775808 ≤ i) (h1 : i ≤ 9223372036854775807) (w : World) (hx : RdB w A xs) :
    Calls Try.prog 94 #[.slice A n c, .int .i64 i] w fun e w' => e = .returned (.int .i64 (bitI xs i : Nat)) ∧ w = w' := by
  have HX := Lib.hid hx
  have HN := Lib.hid hn
  clear hx hn
  by_cases hi : i < 0
  · have HB := Lib.hid (bitI_neg (xs := xs) hi)
    go_enter Try.func94, Try.ntmps94
    go_wp2
    go_ret
    exact ⟨by rw [HB.out]; rfl, rfl⟩
  · obtain ⟨p, rfl⟩ := Int.eq_ofNat_of_zero_le (show 0 ≤ i by omega)
    clear hi h0
    by_cases hp : p / 8 < n
    · obtain ⟨b, o, rfl, _, hc⟩ := HX.out (p / 8) (by rw [HN.out]; exact hp)
      obtain ⟨x, hxx⟩ : ∃ x, (xs.getD (p / 8) 0).toNat = x := ⟨_, rfl⟩
      have lx : x < 256 := by rw [← hxx]; exact UInt8.toNat_lt _
      have hb := bitI_nat xs p
      rw [hxx] at hc hb
      clear hxx
      have i1 : (p : Int) / 8 < (n : Int) := by omega
      have m1 := i64_and7 p (by omega)
      obtain ⟨r, hr⟩ : ∃ r, p % 8 = r := ⟨_, rfl⟩
      have hrl : r < 8 := by omega
      have hmin : min r 8 = r := by omega
      rw [hr] at m1 hb
      have hY0 : ((x : Int) / 2 ^ r) = ((x / 2 ^ r : Nat) : Int) := by simp
      obtain ⟨Y, hY⟩ : ∃ Y, x / 2 ^ r = Y := ⟨_, rfl⟩
      have hYl : Y ≤ x := by rw [← hY]; exact Nat.div_le_self _ _
      rw [hY] at hY0 hb
      have a1 := i64_and1g Y (by omega)
      obtain ⟨v, hv⟩ : ∃ v, Y % 2 = v := ⟨_, rfl⟩
      rw [hv] at a1 hb
      have HB := Lib.hid hb
      clear hb hr hY hv
      go_enter Try.func94, Try.ntmps94
      go_wp2
      go_ret
      exact ⟨by rw [HB.out]; rfl, rfl⟩
    · have HB := Lib.hid (bitI_far (xs := xs) (p := p) (by rw [HN.out]; omega))
      have i1 : ¬ ((p : Int) / 8 < (n : Int)) := by omega
      go_enter Try.func94, Try.ntmps94
      go_wp2
      go_ret
      exact ⟨by rw [HB.out]; rfl, rfl⟩
end Go.Proofs.Ytckhkagkpldoiaa
