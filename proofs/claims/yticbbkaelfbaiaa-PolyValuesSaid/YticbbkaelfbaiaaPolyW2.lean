/- The reference's products and values of polynomials; two equal lists: walks. -/
import Derived.Test.YticbbkaelfbaiaaPolyW
namespace Go.Proofs.Yticbbkaelfbaiaa
open Go.RowKit
set_option linter.unusedVariables false

/-- The product's coefficient, as far as the loop has come. -/
theorem conv_part {p q : List UInt8} {a : Nat} : xs (min (a + 1) p.length) (fun i => gm (co p i) (co q (a - i))) = conv (co p) (co q) a := by
  unfold conv
  rcases Nat.le_total (a + 1) p.length with h | h
  · rw [Nat.min_eq_left h]
  · rw [Nat.min_eq_right h]
    exact (xs_le h _ (fun i hi => by rw [co_ge hi, zero_gm])).symm
set_option maxRecDepth 100000 in
theorem refProduct_any (A B : Option Addr) (n m c d : Nat) (p q : List UInt8) (hn : p.length = n) (hm : q.length = m) (bn : n ≤ maxLen) (bm : m ≤ maxLen) (a : Nat) (ba : a ≤ 562949953421312) (w : World) (hx : RdB w A p) (hy : RdB w B q) :
    Calls Try.prog 18 #[.slice A n c, .slice B m d, .int .i64 (a : Int)] w fun e w' => e = .returned (.int .u8 ((conv (co p) (co q) a).toNat : Int)) ∧ ∃ k, w' = w.drewN k := by
  unfold maxLen at bn bm
  have HX := Lib.hid hx
  have HY := Lib.hid hy
  have HN := Lib.hid (And.intro hn hm)
  have HC := Lib.hid (conv_part (p := p) (q := q) (a := a))
  rw [hn] at HC
  clear hx hy hn hm
  go_enter Try.func18, Try.ntmps18
  go_wp2
  go_loopw [7, 8] (fun s i wr => ∃ k : Nat, k ≤ min (a + 1) n ∧ i = .int .i64 k ∧ s = .int .u8 ((xs k (fun i => gm (co p i) (co q (a - i)))).toNat : Int) ∧ ∃ q, wr = w.drewN q) (fun _ i _ => min (a + 1) n - (intOf i).toNat)
  case atStart => exact ⟨0, Nat.zero_le _, rfl, rfl, 0, rfl⟩
  case round =>
    obtain ⟨k, hk, rfl, rfl, z, hz⟩ := hrel
    have i0 : (0 : Int) ≤ (k : Int) := by omega
    by_cases h1 : k < min (a + 1) n
    · have i1 : (k : Int) ≤ (a : Int) := by omega
      have i2 : (k : Int) < (n : Int) := by omega
      obtain ⟨b, o, rfl, hc⟩ := RdB.at k (HX.out.drewN z) (by have := HN.out.1; omega)
      rw [← hz] at hc
      obtain ⟨j, hj⟩ : ∃ j, a - k = j := ⟨_, rfl⟩
      have hw : IntKind.i64.wrap ((a : Int) - (k : Int)) = (j : Int) := by rw [show (a : Int) - (k : Int) = (j : Int) from by omega]; exact IntWalk.i64_in _ (by omega)
      have HS : RowKit.Hid (xs (k + 1) (fun i => gm (co p i) (co q (a - i))) = xs k (fun i => gm (co p i) (co q (a - i))) ^^^ gm (co p k) (co q j)) := Lib.hid (by rw [xs_succ, hj])
      obtain ⟨s, hs⟩ : ∃ s, xs k (fun i => gm (co p i) (co q (a - i))) = s := ⟨_, rfl⟩
      rw [hs] at HS ⊢
      obtain ⟨x, hx⟩ : ∃ x, co p k = x := ⟨_, rfl⟩
      rw [hx] at hc HS
      have HB := Lib.hid (fun W => refAtN_any B m d q HN.out.2 j W)
      obtain ⟨y, hy⟩ : ∃ y, co q j = y := ⟨_, rfl⟩
      rw [hy] at HB HS
      have hxor := u8_xorP s (gm x y)
      have HM := Lib.hid (fun W => rmul_any x y W)
      obtain ⟨g, hg⟩ : ∃ g, gm x y = g := ⟨_, rfl⟩
      obtain ⟨t, ht⟩ : ∃ t, s ^^^ g = t := ⟨_, rfl⟩
      rw [hg] at hxor HM HS
      rw [ht] at hxor HS
      have HY2 := Lib.hid (HY.out.drewN z)
      have HQ := Lib.hid hz
      rw [← hz] at HY2
      clear hs hx hy hg ht hj hz
      go_wp2_with fail
      go_quiet (first
        | (go_at_call 17; exact Calls.quiet_of_same ((HB.out _ (HY2.out.drewN _)).mono fun _ _ h => ⟨h.1, h.2.symm⟩))
        | (go_at_call 21; exact Calls.quiet_of_same ((HM.out _).mono fun _ _ h => ⟨h.1, h.2.symm⟩)))
      go_wp2
      go_roundw
      case rel => exact ⟨k + 1, by omega, by go_num, by rw [HS.out], _, by rw [HQ.out, World.drewN_drewN]⟩
      case measure => simp [intOf]; omega
    · have HR := Lib.hid (show xs k (fun i => gm (co p i) (co q (a - i))) = conv (co p) (co q) a by rw [← HC.out, show k = min (a + 1) n from by omega])
      rw [HR.out]
      have HQ := Lib.hid hz
      clear hz HR
      by_cases h2 : k < n
      · have i1 : (a : Int) < (k : Int) := by omega
        go_wp2
        go_ret
        exact ⟨rfl, _, HQ.out⟩
      · by_cases h3 : k < a + 1
        · have i1 : (k : Int) ≤ (a : Int) := by omega
          have i2 : (n : Int) ≤ (k : Int) := by omega
          go_wp2
          go_ret
          exact ⟨rfl, _, HQ.out⟩
        · have i1 : (a : Int) < (k : Int) := by omega
          go_wp2
          go_ret
          exact ⟨rfl, _, HQ.out⟩
theorem ev_succ (f : Nat → UInt8) (n : Nat) (x : UInt8) : ev f (n + 1) x = ev f n x ^^^ gm (f n) (pw x n) := rfl
set_option maxRecDepth 100000 in
theorem refEval_any (A : Option Addr) (n c : Nat) (p : List UInt8) (hn : p.length = n) (bn : n ≤ maxLen) (x : UInt8) (w : World) (hx : RdB w A p) :
    Calls Try.prog 12 #[.slice A n c, .int .u8 (x.toNat : Int)] w fun e w' => e = .returned (.int .u8 ((evalL p x).toNat : Int)) ∧ ∃ k, w' = w.drewN k := by
  unfold maxLen at bn
  have HX := Lib.hid hx
  have HN := Lib.hid hn
  have HC := Lib.hid (show ev (co p) n x = evalL p x by unfold evalL; rw [hn])
  clear hx hn
  go_enter Try.func12, Try.ntmps12
  go_wp2
  go_loopw [5, 6, 7] (fun s u i wr => ∃ k : Nat, k ≤ n ∧ i = .int .i64 k ∧ s = .int .u8 ((ev (co p) k x).toNat : Int) ∧ u = .int .u8 ((pw x k).toNat : Int) ∧ ∃ q, wr = w.drewN q) (fun _ _ i _ => n - (intOf i).toNat)
  case atStart => exact ⟨0, Nat.zero_le _, rfl, rfl, rfl, 0, rfl⟩
  case round =>
    obtain ⟨k, hk, rfl, rfl, rfl, z, hz⟩ := hrel
    have i0 : (0 : Int) ≤ (k : Int) := by omega
    by_cases h1 : k < n
    · have i2 : (k : Int) < (n : Int) := by omega
      obtain ⟨b, o, rfl, hc⟩ := RdB.at k (HX.out.drewN z) (by have := HN.out; omega)
      rw [← hz] at hc
      have HS := Lib.hid (ev_succ (co p) k x)
      have HP := Lib.hid (show pw x (k + 1) = gm (pw x k) x from rfl)
      obtain ⟨s, hs⟩ : ∃ s, ev (co p) k x = s := ⟨_, rfl⟩
      obtain ⟨u, hu⟩ : ∃ u, pw x k = u := ⟨_, rfl⟩
      obtain ⟨y, hy⟩ : ∃ y, co p k = y := ⟨_, rfl⟩
      rw [hs, hu, hy] at HS
      rw [hu] at HP
      rw [hs, hu]
      rw [hy] at hc
      have hxor := u8_xorP s (gm y u)
      have HM := Lib.hid (fun W => rmul_any y u W)
      have HM2 := Lib.hid (fun W => rmul_any u x W)
      obtain ⟨g, hg⟩ : ∃ g, gm y u = g := ⟨_, rfl⟩
      obtain ⟨t, ht⟩ : ∃ t, s ^^^ g = t := ⟨_, rfl⟩
      rw [hg] at hxor HM HS
      rw [ht] at hxor HS
      obtain ⟨v, hv⟩ : ∃ v, gm u x = v := ⟨_, rfl⟩
      rw [hv] at HM2 HP
      have HQ := Lib.hid hz
      clear hs hu hy hg ht hv hz
      go_wp2_with fail
      refine (HM.out _).mono ?_
      rintro e w2 ⟨rfl, rfl⟩
      go_wp2_with fail
      refine (HM2.out _).mono ?_
      rintro e w2 ⟨rfl, rfl⟩
      go_wp2
      go_roundw
      case rel => exact ⟨k + 1, by omega, by go_num, by rw [HS.out], by rw [HP.out], _, HQ.out⟩
      case measure => simp [intOf]; omega
    · obtain rfl : k = n := by omega
      rw [HC.out]
      have HQ := Lib.hid hz
      clear hz
      go_wp2
      go_ret
      exact ⟨rfl, _, HQ.out⟩
set_option maxRecDepth 100000 in
/-- Two lists that are the same. -/
theorem refSame1_any (A B : Option Addr) (n c d : Nat) (p : List UInt8) (hn : p.length = n) (bn : n ≤ maxLen) (w : World) (hx : RdB w A p) (hy : RdB w B p) :
    Calls Try.prog 29 #[.slice A n c, .slice B n d] w fun e w' => e = .returned (.bool true) ∧ ∃ k, w' = w.drewN k := by
  unfold maxLen at bn
  have HX := Lib.hid hx
  have HY := Lib.hid hy
  have HN := Lib.hid hn
  clear hx hy hn
  go_enter Try.func29, Try.ntmps29
  go_wp2
  go_loopw [5] (fun i wr => ∃ k : Nat, k ≤ n ∧ i = .int .i64 k ∧ ∃ q, wr = w.drewN q) (fun i _ => n - (intOf i).toNat)
  case atStart => exact ⟨0, Nat.zero_le _, rfl, 0, rfl⟩
  case round =>
    obtain ⟨k, hk, rfl, z, hz⟩ := hrel
    have i0 : (0 : Int) ≤ (k : Int) := by omega
    by_cases h1 : k < n
    · have i2 : (k : Int) < (n : Int) := by omega
      obtain ⟨b, o, rfl, hc⟩ := RdB.at k (HX.out.drewN z) (by have := HN.out; omega)
      obtain ⟨b2, o2, rfl, hc2⟩ := RdB.at k (HY.out.drewN z) (by have := HN.out; omega)
      rw [← hz] at hc hc2
      obtain ⟨y, hy⟩ : ∃ y, ((co p k).toNat : Int) = y := ⟨_, rfl⟩
      rw [hy] at hc hc2
      have q1 : (y != y) = false := by simp
      have HQ := Lib.hid hz
      clear hy hz
      go_wp2_with fail
      go_quiet (fail)
      go_wp2
      go_roundw
      case rel => exact ⟨k + 1, by omega, by go_num, _, by rw [HQ.out, World.drewN_drewN]⟩
      case measure => simp [intOf]; omega
    · obtain rfl : k = n := by omega
      have HQ := Lib.hid hz
      clear hz
      go_wp2
      go_ret
      exact ⟨rfl, _, HQ.out⟩
end Go.Proofs.Yticbbkaelfbaiaa
