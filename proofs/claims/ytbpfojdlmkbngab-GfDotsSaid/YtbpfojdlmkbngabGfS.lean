/- The sum of products, walked. -/
import Derived.Test.YtbpfojdlmkbngabGfL
import Derived.Test.YtbpfojdlmkbngabGfU
import Derived.Test.YtbpfojdlmkbngabMem
namespace Go.Proofs.Ytbpfojdlmkbngab
open Go.RowKit

theorem u8_xorB (a b : UInt8) : bits .xor .u8 (a.toNat : Int) (b.toNat : Int) = ((a ^^^ b).toNat : Int) := by
  have ha := a.toNat_lt
  have hb := b.toNat_lt
  have h8 : ∀ c : Nat, c < 256 → (BitVec.ofInt 8 (c : Int)).toNat = c := by
    intro c hc
    rw [BitVec.ofInt_natCast, BitVec.toNat_ofNat]; exact Nat.mod_eq_of_lt (by omega)
  have hx : a.toNat ^^^ b.toNat < 2 ^ 8 := Nat.xor_lt_two_pow ha hb
  show IntKind.u8.wrap ((BitVec.ofInt 8 (a.toNat : Int) ^^^ BitVec.ofInt 8 (b.toNat : Int)).toNat : Int) = _
  rw [BitVec.toNat_xor, h8 _ ha, h8 _ hb, UInt8.toNat_xor]
  exact IntWalk.u8_in _ (by omega)

set_option maxRecDepth 100000 in
theorem dot_any (b : Nat) (A B : Option Addr) (n m c d : Nat) (xs ys : List UInt8) (hn : xs.length = n) (hm : ys.length = m) (bn : n ≤ maxLen) (bm : m ≤ maxLen) (w : World) (hF : FieldAt w b) (hx : RdB w A xs) (hy : RdB w B ys) :
    Calls Try.prog 19 #[.pointer (some ⟨b, 0, none⟩), .slice A n c, .slice B m d] w fun e w' => e = .returned (.int .u8 ((dot xs ys).toNat : Int)) ∧ ∃ k, w' = w.drewN k := by
  have HF := Lib.hid hF
  have HX := Lib.hid hx
  have HY := Lib.hid hy
  have HN := Lib.hid hn
  have HM := Lib.hid hm
  clear hF hx hy hn hm
  unfold maxLen at bn bm
  by_cases hmn : m < n
  · go_enter Try.func19, Try.ntmps19
    go_wp2
    go_loopw [7, 14] (fun s i wr => ∃ k : Nat, k ≤ m ∧ i = .int .i64 k ∧ s = .int .u8 ((dotTo xs ys k).toNat : Int) ∧ ∃ q, wr = w.drewN q) (fun _ i _ => m - (intOf i).toNat)
    case atStart => exact ⟨0, by omega, rfl, rfl, 0, rfl⟩
    case round =>
      obtain ⟨k, hk, rfl, rfl, q, hq⟩ := hrel
      by_cases hlt : k < m
      · obtain ⟨b1, o1, rfl, _, hc1⟩ := HX.out k (by have := HN.out; omega)
        obtain ⟨b2, o2, rfl, _, hc2⟩ := HY.out k (by have := HM.out; omega)
        obtain ⟨x, hx⟩ : ∃ x, xs.getD k 0 = x := ⟨_, rfl⟩
        obtain ⟨y, hy⟩ : ∃ y, ys.getD k 0 = y := ⟨_, rfl⟩
        obtain ⟨s, hs⟩ : ∃ s, dotTo xs ys k = s := ⟨_, rfl⟩
        rw [hx] at hc1
        rw [hy] at hc2
        have hd1 : wr.cell? ⟨b1, o1 + k, none⟩ = some (.int .u8 (x.toNat : Int)) := by rw [hq]; exact hc1
        have hd2 : wr.cell? ⟨b2, o2 + k, none⟩ = some (.int .u8 (y.toNat : Int)) := by rw [hq]; exact hc2
        have hF2 : FieldAt wr b := by rw [hq]; exact HF.out
        have HF2 := Lib.hid hF2
        have HQ := Lib.hid hq
        clear hc1 hc2 hq hF2
        rw [hs]
        have HS : RowKit.Hid (dotTo xs ys (k + 1) = s ^^^ gm x y) := Lib.hid (by rw [dotTo, hs, hx, hy])
        clear hx hy hs
        have hxor := u8_xorB s (gm x y)
        have hg := gm_toNat x y
        rw [hg] at hxor
        clear hg
        have i0 : (0 : Int) ≤ (k : Int) := by omega
        have i1 : (k : Int) < (n : Int) := by omega
        have i2 : (k : Int) < (m : Int) := by omega
        go_wp2_with fail
        go_quiet ((go_at_call 15; exact Calls.quiet_of (mul_any b _ _ x.toNat y.toNat rfl rfl x.toNat_lt y.toNat_lt _ (HF2.out.drewN _))))
        go_wp2
        go_roundw
        case rel => exact ⟨k + 1, by omega, by go_num, by rw [HS.out, UInt8.toNat_xor], _, by rw [HQ.out, World.drewN_drewN]⟩
        case measure => simp [intOf]; omega
      · obtain rfl : k = m := by omega
        have HQ := Lib.hid hq
        clear hq
        go_wp2
        go_ret
        exact ⟨ret_int (by rw [dot, HN.out, HM.out, show min _ _ = k from by omega]), _, HQ.out⟩
  · go_enter Try.func19, Try.ntmps19
    go_wp2
    go_loopw [7, 14] (fun s i wr => ∃ k : Nat, k ≤ n ∧ i = .int .i64 k ∧ s = .int .u8 ((dotTo xs ys k).toNat : Int) ∧ ∃ q, wr = w.drewN q) (fun _ i _ => n - (intOf i).toNat)
    case atStart => exact ⟨0, by omega, rfl, rfl, 0, rfl⟩
    case round =>
      obtain ⟨k, hk, rfl, rfl, q, hq⟩ := hrel
      by_cases hlt : k < n
      · obtain ⟨b1, o1, rfl, _, hc1⟩ := HX.out k (by have := HN.out; omega)
        obtain ⟨b2, o2, rfl, _, hc2⟩ := HY.out k (by have := HM.out; omega)
        obtain ⟨x, hx⟩ : ∃ x, xs.getD k 0 = x := ⟨_, rfl⟩
        obtain ⟨y, hy⟩ : ∃ y, ys.getD k 0 = y := ⟨_, rfl⟩
        obtain ⟨s, hs⟩ : ∃ s, dotTo xs ys k = s := ⟨_, rfl⟩
        rw [hx] at hc1
        rw [hy] at hc2
        have hd1 : wr.cell? ⟨b1, o1 + k, none⟩ = some (.int .u8 (x.toNat : Int)) := by rw [hq]; exact hc1
        have hd2 : wr.cell? ⟨b2, o2 + k, none⟩ = some (.int .u8 (y.toNat : Int)) := by rw [hq]; exact hc2
        have hF2 : FieldAt wr b := by rw [hq]; exact HF.out
        have HF2 := Lib.hid hF2
        have HQ := Lib.hid hq
        clear hc1 hc2 hq hF2
        rw [hs]
        have HS : RowKit.Hid (dotTo xs ys (k + 1) = s ^^^ gm x y) := Lib.hid (by rw [dotTo, hs, hx, hy])
        clear hx hy hs
        have hxor := u8_xorB s (gm x y)
        have hg := gm_toNat x y
        rw [hg] at hxor
        clear hg
        have i0 : (0 : Int) ≤ (k : Int) := by omega
        have i1 : (k : Int) < (n : Int) := by omega
        have i2 : (k : Int) < (m : Int) := by omega
        go_wp2_with fail
        go_quiet ((go_at_call 15; exact Calls.quiet_of (mul_any b _ _ x.toNat y.toNat rfl rfl x.toNat_lt y.toNat_lt _ (HF2.out.drewN _))))
        go_wp2
        go_roundw
        case rel => exact ⟨k + 1, by omega, by go_num, by rw [HS.out, UInt8.toNat_xor], _, by rw [HQ.out, World.drewN_drewN]⟩
        case measure => simp [intOf]; omega
      · obtain rfl : k = n := by omega
        have HQ := Lib.hid hq
        clear hq
        go_wp2
        go_ret
        exact ⟨ret_int (by rw [dot, HN.out, HM.out, show min _ _ = k from by omega]), _, HQ.out⟩
end Go.Proofs.Ytbpfojdlmkbngab
