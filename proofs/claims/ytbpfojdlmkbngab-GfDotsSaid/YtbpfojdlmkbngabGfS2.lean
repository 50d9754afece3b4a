/- The reference's sum of products, walked. -/
import Derived.Test.YtbpfojdlmkbngabGfR
import Derived.Test.YtbpfojdlmkbngabGfU
import Derived.Test.YtbpfojdlmkbngabMem
import Derived.Deep.QuietTactic
import Derived.BigQuiet
namespace Go.Proofs.Ytbpfojdlmkbngab
open Go.RowKit

theorem u8_xorR (a b : UInt8) : bits .xor .u8 (a.toNat : Int) (b.toNat : Int) = ((a ^^^ b).toNat : Int) := by
  have ha := a.toNat_lt
  have hb := b.toNat_lt
  have h8 : ∀ c : Nat, c < 256 → (BitVec.ofInt 8 (c : Int)).toNat = c := by
    intro c hc
    rw [BitVec.ofInt_natCast, BitVec.toNat_ofNat]; exact Nat.mod_eq_of_lt (by omega)
  have hx : a.toNat ^^^ b.toNat < 2 ^ 8 := Nat.xor_lt_two_pow ha hb
  show IntKind.u8.wrap ((BitVec.ofInt 8 (a.toNat : Int) ^^^ BitVec.ofInt 8 (b.toNat : Int)).toNat : Int) = _
  rw [BitVec.toNat_xor, h8 _ ha, h8 _ hb, UInt8.toNat_xor]
  exact IntWalk.u8_in _ (by omega)

set_option maxRecDepth 100000 in
theorem refDot_any (A B : Option Addr) (n m c d : Nat) (xs ys : List UInt8) (hn : xs.length = n) (hm : ys.length = m) (bn : n ≤ maxLen) (bm : m ≤ maxLen) (w : World) (hx : RdB w A xs) (hy : RdB w B ys) :
    Calls Try.prog 20 #[.slice A n c, .slice B m d] w fun e w' => e = .returned (.int .u8 ((dot xs ys).toNat : Int)) ∧ ∃ k, w' = w.drewN k := by
  have HX := Lib.hid hx
  have HY := Lib.hid hy
  have HN := Lib.hid hn
  have HM := Lib.hid hm
  clear hx hy hn hm
  unfold maxLen at bn bm
  go_enter Try.func20, Try.ntmps20
  go_wp2
  go_loopw [5, 6] (fun s i wr => ∃ k : Nat, k ≤ n ∧ k ≤ m ∧ i = .int .i64 k ∧ s = .int .u8 ((dotTo xs ys k).toNat : Int) ∧ ∃ q, wr = w.drewN q) (fun _ i _ => n - (intOf i).toNat)
  case atStart => exact ⟨0, by omega, by omega, rfl, rfl, 0, rfl⟩
  case round =>
    obtain ⟨k, hk, hk2, rfl, rfl, q, hq⟩ := hrel
    by_cases hl1 : k < n
    · by_cases hl2 : k < m
      · obtain ⟨b1, o1, rfl, _, hc1⟩ := HX.out k (by have := HN.out; omega)
        obtain ⟨b2, o2, rfl, _, hc2⟩ := HY.out k (by have := HM.out; omega)
        obtain ⟨x, hx⟩ : ∃ x, xs.getD k 0 = x := ⟨_, rfl⟩
        obtain ⟨y, hy⟩ : ∃ y, ys.getD k 0 = y := ⟨_, rfl⟩
        obtain ⟨s, hs⟩ : ∃ s, dotTo xs ys k = s := ⟨_, rfl⟩
        rw [hx] at hc1
        rw [hy] at hc2
        have hd1 : wr.cell? ⟨b1, o1 + k, none⟩ = some (.int .u8 (x.toNat : Int)) := by rw [hq]; exact hc1
        have hd2 : wr.cell? ⟨b2, o2 + k, none⟩ = some (.int .u8 (y.toNat : Int)) := by rw [hq]; exact hc2
        have HQ := Lib.hid hq
        clear hc1 hc2 hq
        rw [hs]
        have HS : RowKit.Hid (dotTo xs ys (k + 1) = s ^^^ gm x y) := Lib.hid (by rw [dotTo, hs, hx, hy])
        clear hx hy hs
        have hxor := u8_xorR s (gm x y)
        have hg := gm_toNat x y
        rw [hg] at hxor
        clear hg
        have i0 : (0 : Int) ≤ (k : Int) := by omega
        have i1 : (k : Int) < (n : Int) := by omega
        have i2 : (k : Int) < (m : Int) := by omega
        go_wp2_with fail
        go_quiet ((go_at_call 13; exact Calls.quiet_of_same ((refMul_any _ _ x.toNat y.toNat rfl rfl x.toNat_lt y.toNat_lt _).mono fun _ _ h => ⟨h.1, h.2.symm⟩)))
        go_wp2
        go_roundw
        case rel => exact ⟨k + 1, by omega, by omega, by go_num, by rw [HS.out, UInt8.toNat_xor], _, by rw [HQ.out, World.drewN_drewN]⟩
        case measure => simp [intOf]; omega
      · obtain rfl : k = m := by omega
        have HQ := Lib.hid hq
        clear hq
        go_wp2
        go_ret
        exact ⟨ret_intR (by rw [dot, HN.out, HM.out, show min _ _ = k from by omega]), _, HQ.out⟩
    · obtain rfl : k = n := by omega
      have HQ := Lib.hid hq
      clear hq
      go_wp2
      go_ret
      exact ⟨ret_intR (by rw [dot, HN.out, HM.out, show min _ _ = k from by omega]), _, HQ.out⟩
end Go.Proofs.Ytbpfojdlmkbngab
