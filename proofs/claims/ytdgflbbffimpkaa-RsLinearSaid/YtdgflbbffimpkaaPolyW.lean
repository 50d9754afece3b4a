/- The reference's polynomials, and degrees: walks. -/
import Derived.Test.YtdgflbbffimpkaaGfL
import Derived.Test.YtdgflbbffimpkaaGfR
import Derived.Test.YtdgflbbffimpkaaGfD
import Derived.Test.YtdgflbbffimpkaaPolyL
import Derived.Test.YtdgflbbffimpkaaMemP
import Derived.Deep.QuietTactic
import Derived.BigQuiet
namespace Go.Proofs.Ytdgflbbffimpkaa
open Go.RowKit

theorem u8_xorP (a b : UInt8) : bits .xor .u8 (a.toNat : Int) (b.toNat : Int) = ((a ^^^ b).toNat : Int) := by
  have ha := a.toNat_lt
  have hb := b.toNat_lt
  have h8 : ∀ c : Nat, c < 256 → (BitVec.ofInt 8 (c : Int)).toNat = c := by
    intro c hc
    rw [BitVec.ofInt_natCast, BitVec.toNat_ofNat]; exact Nat.mod_eq_of_lt (by omega)
  have hx : a.toNat ^^^ b.toNat < 2 ^ 8 := Nat.xor_lt_two_pow ha hb
  show IntKind.u8.wrap ((BitVec.ofInt 8 (a.toNat : Int) ^^^ BitVec.ofInt 8 (b.toNat : Int)).toNat : Int) = _
  rw [BitVec.toNat_xor, h8 _ ha, h8 _ hb, UInt8.toNat_xor]
  exact IntWalk.u8_in _ (by omega)
theorem u8_neP {x y : UInt8} (h : x ≠ y) : (x.toNat : Int) ≠ (y.toNat : Int) := fun e => h (UInt8.toNat_inj.1 (by omega))
theorem u8_ne0 {x : UInt8} (h : x ≠ 0) : (x.toNat : Int) ≠ 0 := fun e => h (UInt8.toNat_inj.1 (by rw [UInt8.toNat_zero]; omega))
theorem fmul_any (b : Nat) (x y : UInt8) (w : World) (hF : FieldAt w b) :
    Calls Try.prog 19 #[.pointer (some ⟨b, 0, none⟩), .int .u8 (x.toNat : Int), .int .u8 (y.toNat : Int)] w fun e w' => e = .returned (.int .u8 ((gm x y).toNat : Int)) ∧ ∃ k, w' = w.drewN k := by
  rw [gm_toNat]; exact mul_any b _ _ _ _ rfl rfl x.toNat_lt y.toNat_lt w hF
theorem rmul_any (x y : UInt8) (w : World) :
    Calls Try.prog 23 #[.int .u8 (x.toNat : Int), .int .u8 (y.toNat : Int)] w fun e w' => e = .returned (.int .u8 ((gm x y).toNat : Int)) ∧ w = w' := by
  rw [gm_toNat]; exact refMul_any _ _ _ _ rfl rfl x.toNat_lt y.toNat_lt w
theorem RdB.at (k : Nat) {w : World} {A : Option Addr} {xs : List UInt8} (h : RdB w A xs) (hk : k < xs.length) : ∃ b o, A = some ⟨b, o, none⟩ ∧ w.cell? ⟨b, o + k, none⟩ = some (.int .u8 ((co xs k).toNat : Int)) := by
  obtain ⟨b, o, h1, _, h2⟩ := h k hk
  exact ⟨b, o, h1, h2⟩

theorem degree_any (A : Option Addr) (n c : Nat) (xs : List UInt8) (hn : xs.length = n) (bn : n ≤ maxLen) (w : World) (hx : RdB w A xs) :
    Calls Try.prog 36 #[.slice A n c] w fun e w' => e = .returned (.int .i64 ((tlL xs : Int) - 1)) ∧ w = w' := by
  unfold maxLen at bn
  have HX := Lib.hid hx
  have HN := Lib.hid hn
  have HT := Lib.hid (show tl xs n = tlL xs by unfold tlL; rw [hn])
  have ht := tlL_le xs
  rw [hn] at ht
  obtain ⟨T, hT⟩ : ∃ T, tlL xs = T := ⟨_, rfl⟩
  rw [hT] at HT ht ⊢
  clear hx hn hT
  go_enter Try.func36, Try.ntmps36
  go_wp2
  go_loop [3] (fun d => ∃ k : Nat, k ≤ n ∧ d = .int .i64 ((k : Int) - 1) ∧ tl xs k = T) (fun d => (intOf d + 1).toNat)
  case atStart => exact ⟨n, Nat.le_refl _, rfl, HT.out⟩
  case round =>
    obtain ⟨k, hk, rfl, ht⟩ := hrel
    cases k with
    | zero =>
      obtain rfl : 0 = T := ht
      clear HT
      go_wp2
      go_ret
      exact ⟨rfl, rfl⟩
    | succ k =>
      rw [show ((k + 1 : Nat) : Int) - 1 = (k : Int) from by omega]
      obtain ⟨b, o, rfl, hc⟩ := RdB.at k HX.out (by have := HN.out; omega)
      have i0 : (0 : Int) ≤ (k : Int) := by omega
      have i1 : (k : Int) < (n : Int) := by omega
      by_cases h0 : co xs k = 0
      · have HR := Lib.hid (show tl xs k = T by rw [← ht, tl, if_pos h0])
        rw [h0, UInt8.toNat_zero] at hc
        clear h0 ht HT
        go_wp2
        go_round
        case rel => exact ⟨k, by omega, rfl, HR.out⟩
        case measure => simp [intOf]
      · have HR := Lib.hid (show k + 1 = T by rw [← ht, tl, if_neg h0])
        have q0 := u8_ne0 h0
        obtain ⟨x, hx⟩ : ∃ x, ((co xs k).toNat : Int) = x := ⟨_, rfl⟩
        rw [hx] at hc q0
        have q1 : (x == 0) = false := beq_eq_false_iff_ne.2 q0
        clear h0 ht HT hx q0
        go_wp2
        go_ret
        exact ⟨ret_int (by have := HR.out; omega), rfl⟩


/-- A coefficient at any place. -/
def coI (xs : List UInt8) (i : Int) : UInt8 := if i < 0 then 0 else co xs i.toNat
theorem coI_nat (xs : List UInt8) (i : Nat) : coI xs (i : Int) = co xs i := by unfold coI; rw [if_neg (by omega), Int.toNat_natCast]

end Go.Proofs.Ytdgflbbffimpkaa
