/- The reference's polynomials, and degrees: walks. -/
import Derived.Test.YticbbkaelfbaiaaGfL
import Derived.Test.YticbbkaelfbaiaaGfR
import Derived.Test.YticbbkaelfbaiaaGfD
import Derived.Test.YticbbkaelfbaiaaPolyL
import Derived.Test.YticbbkaelfbaiaaMemP
import Derived.Deep.QuietTactic
import Derived.BigQuiet
namespace Go.Proofs.Yticbbkaelfbaiaa
open Go.RowKit

theorem u8_xorP (a b : UInt8) : bits .xor .u8 (a.toNat : Int) (b.toNat : Int) = ((a ^^^ b).toNat : Int) := by
  have ha := a.toNat_lt
  have hb := b.toNat_lt
  have h8 : ∀ c : Nat, c < 256 → (BitVec.ofInt 8 (c : Int)).toNat = c := by
    intro c hc
    rw [BitVec.ofInt_natCast, BitVec.toNat_ofNat]; exact Nat.mod_eq_of_lt (by omega)
  have hx : a.toNat ^^^ b.toNat < 2 ^ 8 := Nat.xor_lt_two_pow ha hb
  show IntKind.u8.wrap ((BitVec.ofInt 8 (a.toNat : Int) ^^^ BitVec.ofInt 8 (b.toNat : Int)).toNat : Int) = _
  rw [BitVec.toNat_xor, h8 _ ha, h8 _ hb, UInt8.toNat_xor]
  exact IntWalk.u8_in _ (by omega)
theorem u8_neP {x y : UInt8} (h : x ≠ y) : (x.toNat : Int) ≠ (y.toNat : Int) := fun e => h (UInt8.toNat_inj.1 (by omega))
theorem u8_ne0 {x : UInt8} (h : x ≠ 0) : (x.toNat : Int) ≠ 0 := fun e => h (UInt8.toNat_inj.1 (by rw [UInt8.toNat_zero]; omega))
theorem fmul_any (b : Nat) (x y : UInt8) (w : World) (hF : FieldAt w b) :
    Calls Try.prog 30 #[.pointer (some ⟨b, 0, none⟩), .int .u8 (x.toNat : Int), .int .u8 (y.toNat : Int)] w fun e w' => e = .returned (.int .u8 ((gm x y).toNat : Int)) ∧ ∃ k, w' = w.drewN k := by
  rw [gm_toNat]; exact mul_any b _ _ _ _ rfl rfl x.toNat_lt y.toNat_lt w hF
theorem rmul_any (x y : UInt8) (w : World) :
    Calls Try.prog 21 #[.int .u8 (x.toNat : Int), .int .u8 (y.toNat : Int)] w fun e w' => e = .returned (.int .u8 ((gm x y).toNat : Int)) ∧ w = w' := by
  rw [gm_toNat]; exact refMul_any _ _ _ _ rfl rfl x.toNat_lt y.toNat_lt w
theorem RdB.at (k : Nat) {w : World} {A : Option Addr} {xs : List UInt8} (h : RdB w A xs) (hk : k < xs.length) : ∃ b o, A = some ⟨b, o, none⟩ ∧ w.cell? ⟨b, o + k, none⟩ = some (.int .u8 ((co xs k).toNat : Int)) := by
  obtain ⟨b, o, h1, _, h2⟩ := h k hk
  exact ⟨b, o, h1, h2⟩

theorem degree_any (A : Option Addr) (n c : Nat) (xs : List UInt8) (hn : xs.length = n) (bn : n ≤ maxLen) (w : World) (hx : RdB w A xs) :
    Calls Try.prog 26 #[.slice A n c] w fun e w' => e = .returned (.int .i64 ((tlL xs : Int) - 1)) ∧ w = w' := by
  unfold maxLen at bn
  have HX := Lib.hid hx
  have HN := Lib.hid hn
  have HT := Lib.hid (show tl xs n = tlL xs by unfold tlL; rw [hn])
  have ht := tlL_le xs
  rw [hn] at ht
  obtain ⟨T, hT⟩ : ∃ T, tlL xs = T := ⟨_, rfl⟩
  rw [hT] at HT ht ⊢
  clear hx hn hT
  go_enter Try.func26, Try.ntmps26
  go_wp2
  go_loop [3] (fun d => ∃ k : Nat, k ≤ n ∧ d = .int .i64 ((k : Int) - 1) ∧ tl xs k = T) (fun d => (intOf d + 1).toNat)
  case atStart => exact ⟨n, Nat.le_refl _, rfl, HT.out⟩
  case round =>
    obtain ⟨k, hk, rfl, ht⟩ := hrel
    cases k with
    | zero =>
      obtain rfl : 0 = T := ht
      clear HT
      go_wp2
      go_ret
      exact ⟨rfl, rfl⟩
    | succ k =>
      rw [show ((k + 1 : Nat) : Int) - 1 = (k : Int) from by omega]
      obtain ⟨b, o, rfl, hc⟩ := RdB.at k HX.out (by have := HN.out; omega)
      have i0 : (0 : Int) ≤ (k : Int) := by omega
      have i1 : (k : Int) < (n : Int) := by omega
      by_cases h0 : co xs k = 0
      · have HR := Lib.hid (show tl xs k = T by rw [← ht, tl, if_pos h0])
        rw [h0, UInt8.toNat_zero] at hc
        clear h0 ht HT
        go_wp2
        go_round
        case rel => exact ⟨k, by omega, rfl, HR.out⟩
        case measure => simp [intOf]
      · have HR := Lib.hid (show k + 1 = T by rw [← ht, tl, if_neg h0])
        have q0 := u8_ne0 h0
        obtain ⟨x, hx⟩ : ∃ x, ((co xs k).toNat : Int) = x := ⟨_, rfl⟩
        rw [hx] at hc q0
        have q1 : (x == 0) = false := beq_eq_false_iff_ne.2 q0
        clear h0 ht HT hx q0
        go_wp2
        go_ret
        exact ⟨ret_int (by have := HR.out; omega), rfl⟩

theorem refDegree_any (A : Option Addr) (n c : Nat) (xs : List UInt8) (hn : xs.length = n) (bn : n ≤ maxLen) (w : World) (hx : RdB w A xs) :
    Calls Try.prog 16 #[.slice A n c] w fun e w' => e = .returned (.int .i64 ((tlL xs : Int) - 1)) ∧ w = w' := by
  unfold maxLen at bn
  have HX := Lib.hid hx
  have HN := Lib.hid hn
  have HT := Lib.hid (show tl xs n = tlL xs by unfold tlL; rw [hn])
  obtain ⟨T, hT⟩ : ∃ T, tlL xs = T := ⟨_, rfl⟩
  rw [hT] at HT ⊢
  clear hx hn hT
  go_enter Try.func16, Try.ntmps16
  go_wp2
  go_loop [3, 4] (fun d i => ∃ k t : Nat, k ≤ n ∧ i = .int .i64 k ∧ t = tl xs k ∧ d = .int .i64 ((t : Int) - 1)) (fun _ i => n - (intOf i).toNat)
  case atStart => exact ⟨0, 0, Nat.zero_le _, rfl, rfl, rfl⟩
  case round =>
    obtain ⟨k, t, hk, rfl, ht, rfl⟩ := hrel
    by_cases hl : k < n
    · obtain ⟨b, o, rfl, hc⟩ := RdB.at k HX.out (by have := HN.out; omega)
      have i0 : (0 : Int) ≤ (k : Int) := by omega
      have i1 : (k : Int) < (n : Int) := by omega
      by_cases h0 : co xs k = 0
      · have HR := Lib.hid (show t = tl xs (k + 1) by rw [ht, tl, if_pos h0])
        rw [h0, UInt8.toNat_zero] at hc
        clear h0 ht HT
        go_wp2
        go_round
        case rel => exact ⟨k + 1, t, hl, by go_num, HR.out, rfl⟩
        case measure => simp [intOf]; omega
      · have HR := Lib.hid (show k + 1 = tl xs (k + 1) by rw [tl, if_neg h0])
        have q0 := u8_ne0 h0
        obtain ⟨x, hx⟩ : ∃ x, ((co xs k).toNat : Int) = x := ⟨_, rfl⟩
        rw [hx] at hc q0
        have q1 : (x != 0) = true := by rw [bne_iff_ne]; exact q0
        clear h0 ht HT hx q0
        go_wp2
        go_round
        case rel => exact ⟨k + 1, k + 1, hl, by go_num, HR.out, by rw [show ((k + 1 : Nat) : Int) - 1 = (k : Int) from by omega]⟩
        case measure => simp [intOf]; omega
    · obtain rfl : k = n := by omega
      rw [HT.out] at ht
      subst ht
      clear HT
      go_wp2
      go_ret
      exact ⟨rfl, rfl⟩

/-- A coefficient at any place. -/
def coI (xs : List UInt8) (i : Int) : UInt8 := if i < 0 then 0 else co xs i.toNat
theorem coI_nat (xs : List UInt8) (i : Nat) : coI xs (i : Int) = co xs i := by unfold coI; rw [if_neg (by omega), Int.toNat_natCast]
theorem refAt_any (A : Option Addr) (n c : Nat) (xs : List UInt8) (hn : xs.length = n) (i : Int) (w : World) (hx : RdB w A xs) :
    Calls Try.prog 17 #[.slice A n c, .int .i64 i] w fun e w' => e = .returned (.int .u8 ((coI xs i).toNat : Int)) ∧ w = w' := by
  by_cases h0 : i < 0
  · have HR := Lib.hid (show coI xs i = 0 by unfold coI; rw [if_pos h0])
    rw [HR.out]
    clear HR
    go_enter Try.func17, Try.ntmps17
    go_wp2
    go_ret
    exact ⟨rfl, rfl⟩
  · obtain ⟨k, rfl⟩ := Int.eq_ofNat_of_zero_le (show 0 ≤ i by omega)
    rw [coI_nat]
    by_cases hl : k < n
    · obtain ⟨b, o, rfl, hc⟩ := RdB.at k hx (by omega)
      obtain ⟨x, hx⟩ : ∃ x, ((co xs k).toNat : Int) = x := ⟨_, rfl⟩
      rw [hx] at hc ⊢
      clear hx
      have i0 : (0 : Int) ≤ (k : Int) := by omega
      have i1 : (k : Int) < (n : Int) := by omega
      go_enter Try.func17, Try.ntmps17
      go_wp2
      go_ret
      exact ⟨rfl, rfl⟩
    · rw [co_ge (by omega)]
      have i1 : (n : Int) ≤ (k : Int) := by omega
      clear h0 hl hx
      go_enter Try.func17, Try.ntmps17
      go_wp2
      go_ret
      exact ⟨rfl, rfl⟩
theorem refAtN_any (A : Option Addr) (n c : Nat) (xs : List UInt8) (hn : xs.length = n) (i : Nat) (w : World) (hx : RdB w A xs) :
    Calls Try.prog 17 #[.slice A n c, .int .i64 (i : Int)] w fun e w' => e = .returned (.int .u8 ((co xs i).toNat : Int)) ∧ w = w' := by
  rw [← coI_nat]; exact refAt_any A n c xs hn _ w hx

theorem trimmed_any (A : Option Addr) (n c : Nat) (xs : List UInt8) (hn : xs.length = n) (bn : n ≤ maxLen) (w : World) (hx : RdB w A xs) :
    Calls Try.prog 20 #[.slice A n c] w fun e w' => e = .returned (.bool (decide (tlL xs = n))) ∧ w = w' := by
  unfold maxLen at bn
  rcases Nat.eq_zero_or_pos n with h0 | h0
  · subst h0
    have hT := tlL_le xs
    have HR := Lib.hid (show decide (tlL xs = 0) = true from decide_eq_true (by omega))
    rw [HR.out]
    clear HR
    go_enter Try.func20, Try.ntmps20
    go_wp2
    go_ret
    exact ⟨rfl, rfl⟩
  · obtain ⟨k, rfl⟩ : ∃ k, n = k + 1 := ⟨n - 1, by omega⟩
    obtain ⟨b, o, rfl, hc⟩ := RdB.at k hx (by omega)
    have i0 : (0 : Int) ≤ (k : Int) := by omega
    have i2 : (((k + 1 : Nat) : Int) == 0) = false := by rw [beq_eq_false_iff_ne]; omega
    have i3 : IntKind.i64.wrap (((k + 1 : Nat) : Int) - 1) = (k : Int) := by rw [show ((k + 1 : Nat) : Int) - 1 = (k : Int) from by omega]; exact IntWalk.i64_in _ (by omega)
    have i4 : (k : Int) < ((k + 1 : Nat) : Int) := by omega
    obtain ⟨m, hm⟩ : ∃ m, k + 1 = m := ⟨_, rfl⟩
    by_cases hz : co xs k = 0
    · have HR := Lib.hid (show decide (tlL xs = k + 1) = false from decide_eq_false fun e => tlL_top xs e hz)
      rw [HR.out]
      rw [hz, UInt8.toNat_zero] at hc
      rw [hm] at i2 i3 i4 ⊢
      clear HR hz hm
      go_enter Try.func20, Try.ntmps20
      go_wp2
      go_ret
      exact ⟨rfl, rfl⟩
    · have HR := Lib.hid (show decide (tlL xs = k + 1) = true from decide_eq_true (by have := tlL_lt hz; have := tlL_le xs; omega))
      have q0 := u8_ne0 hz
      obtain ⟨x, hx⟩ : ∃ x, ((co xs k).toNat : Int) = x := ⟨_, rfl⟩
      rw [hx] at hc q0
      have q1 : (x != 0) = true := by rw [bne_iff_ne]; exact q0
      rw [HR.out]
      rw [hm] at i2 i3 i4 ⊢
      clear HR hz hx q0 hm
      go_enter Try.func20, Try.ntmps20
      go_wp2
      go_ret
      exact ⟨rfl, rfl⟩
/-- The same, but for noughts at the end. -/
def sameB (xs ys : List UInt8) : Bool := decide (∀ i, i < max xs.length ys.length → co xs i = co ys i)
theorem sameB_true {xs ys : List UInt8} (h : ∀ i, co xs i = co ys i) : sameB xs ys = true := decide_eq_true fun i _ => h i
theorem refSame_any (A B : Option Addr) (n m c d : Nat) (xs ys : List UInt8) (hn : xs.length = n) (hm : ys.length = m) (bn : n ≤ maxLen) (bm : m ≤ maxLen) (w : World) (hx : RdB w A xs) (hy : RdB w B ys) :
    Calls Try.prog 14 #[.slice A n c, .slice B m d] w fun e w' => e = .returned (.bool (sameB xs ys)) ∧ w = w' := by
  unfold maxLen at bn bm
  have HX := Lib.hid hx
  have HY := Lib.hid hy
  have HN := Lib.hid (And.intro hn hm)
  clear hx hy hn hm
  go_enter Try.func14, Try.ntmps14
  go_wp2
  go_loop [5] (fun i => ∃ k : Nat, k ≤ max n m ∧ i = .int .i64 k ∧ ∀ j, j < k → co xs j = co ys j) (fun i => max n m - (intOf i).toNat)
  case atStart => exact ⟨0, Nat.zero_le _, rfl, fun j hj => by omega⟩
  case round =>
    obtain ⟨k, hk, rfl, hs⟩ := hrel
    have HS := Lib.hid hs
    clear hs
    by_cases hl : k < max n m
    · have HA := Lib.hid (fun W => refAtN_any A n c xs HN.out.1 k W)
      have HB := Lib.hid (fun W => refAtN_any B m d ys HN.out.2 k W)
      have i0 : (0 : Int) ≤ (k : Int) := by omega
      by_cases h1 : k < n
      · have i1 : (k : Int) < (n : Int) := by omega
        by_cases he : co xs k = co ys k
        · have q1 : (((co xs k).toNat : Int) != ((co ys k).toNat : Int)) = false := by rw [he]; simp
          have HS2 := Lib.hid (show ∀ j, j < k + 1 → co xs j = co ys j from fun j hj => if h : j < k then HS.out j h else by rw [show j = k from by omega]; exact he)
          obtain ⟨x, hx⟩ : ∃ x, ((co xs k).toNat : Int) = x := ⟨_, rfl⟩
          obtain ⟨y, hy⟩ : ∃ y, ((co ys k).toNat : Int) = y := ⟨_, rfl⟩
          rw [hx] at q1 HA
          rw [hy] at q1 HB
          clear hx hy he
          go_wp2_with fail
          refine (HA.out _ HX.out).mono ?_
          rintro e w2 ⟨rfl, rfl⟩
          go_wp2_with fail
          refine (HB.out _ HY.out).mono ?_
          rintro e w2 ⟨rfl, rfl⟩
          go_wp2
          go_round
          case rel => exact ⟨k + 1, hl, by go_num, HS2.out⟩
          case measure => simp [intOf]; omega
        · have q1 : (((co xs k).toNat : Int) != ((co ys k).toNat : Int)) = true := by rw [bne_iff_ne]; exact u8_neP he
          have HR := Lib.hid (show sameB xs ys = false from decide_eq_false fun h => he (h k (by rw [HN.out.1, HN.out.2]; exact hl)))
          obtain ⟨x, hx⟩ : ∃ x, ((co xs k).toNat : Int) = x := ⟨_, rfl⟩
          obtain ⟨y, hy⟩ : ∃ y, ((co ys k).toNat : Int) = y := ⟨_, rfl⟩
          rw [hx] at q1 HA
          rw [hy] at q1 HB
          clear hx hy he
          go_wp2_with fail
          refine (HA.out _ HX.out).mono ?_
          rintro e w2 ⟨rfl, rfl⟩
          go_wp2_with fail
          refine (HB.out _ HY.out).mono ?_
          rintro e w2 ⟨rfl, rfl⟩
          go_wp2
          go_ret
          exact ⟨congrArg (fun b => Ending.returned (.bool b)) HR.out.symm, rfl⟩
      · have i1 : (n : Int) ≤ (k : Int) := by omega
        have i2 : (k : Int) < (m : Int) := by omega
        by_cases he : co xs k = co ys k
        · have q1 : (((co xs k).toNat : Int) != ((co ys k).toNat : Int)) = false := by rw [he]; simp
          have HS2 := Lib.hid (show ∀ j, j < k + 1 → co xs j = co ys j from fun j hj => if h : j < k then HS.out j h else by rw [show j = k from by omega]; exact he)
          obtain ⟨x, hx⟩ : ∃ x, ((co xs k).toNat : Int) = x := ⟨_, rfl⟩
          obtain ⟨y, hy⟩ : ∃ y, ((co ys k).toNat : Int) = y := ⟨_, rfl⟩
          rw [hx] at q1 HA
          rw [hy] at q1 HB
          clear hx hy he
          go_wp2_with fail
          refine (HA.out _ HX.out).mono ?_
          rintro e w2 ⟨rfl, rfl⟩
          go_wp2_with fail
          refine (HB.out _ HY.out).mono ?_
          rintro e w2 ⟨rfl, rfl⟩
          go_wp2
          go_round
          case rel => exact ⟨k + 1, hl, by go_num, HS2.out⟩
          case measure => simp [intOf]; omega
        · have q1 : (((co xs k).toNat : Int) != ((co ys k).toNat : Int)) = true := by rw [bne_iff_ne]; exact u8_neP he
          have HR := Lib.hid (show sameB xs ys = false from decide_eq_false fun h => he (h k (by rw [HN.out.1, HN.out.2]; exact hl)))
          obtain ⟨x, hx⟩ : ∃ x, ((co xs k).toNat : Int) = x := ⟨_, rfl⟩
          obtain ⟨y, hy⟩ : ∃ y, ((co ys k).toNat : Int) = y := ⟨_, rfl⟩
          rw [hx] at q1 HA
          rw [hy] at q1 HB
          clear hx hy he
          go_wp2_with fail
          refine (HA.out _ HX.out).mono ?_
          rintro e w2 ⟨rfl, rfl⟩
          go_wp2_with fail
          refine (HB.out _ HY.out).mono ?_
          rintro e w2 ⟨rfl, rfl⟩
          go_wp2
          go_ret
          exact ⟨congrArg (fun b => Ending.returned (.bool b)) HR.out.symm, rfl⟩
    · have i1 : (n : Int) ≤ (k : Int) := by omega
      have i2 : (m : Int) ≤ (k : Int) := by omega
      have HR := Lib.hid (show sameB xs ys = true from decide_eq_true fun j hj => HS.out j (by rw [HN.out.1, HN.out.2] at hj; omega))
      go_wp2
      go_ret
      exact ⟨congrArg (fun b => Ending.returned (.bool b)) HR.out.symm, rfl⟩
end Go.Proofs.Yticbbkaelfbaiaa
