/- PolyRoots, walked: for every list of roots and every element the law returns true. -/
import Derived.Test.YticbbkaelfbaiaaPolyK
namespace Go.Proofs.Yticbbkaelfbaiaa
open Go.RowKit Go.Shelf
set_option linter.unusedVariables false

/-- Is x one of the first k? -/
def anyB (xs : List UInt8) (x : UInt8) : Nat → Bool
  | 0 => false
  | k + 1 => anyB xs x k || (co xs k == x)
theorem anyB_iff (xs : List UInt8) (x : UInt8) (k : Nat) : anyB xs x k = true ↔ ∃ i, i < k ∧ co xs i = x := by
  induction k with
  | zero => exact ⟨fun h => (by cases h), fun ⟨i, h, _⟩ => by omega⟩
  | succ k ih =>
    rw [anyB, Bool.or_eq_true, ih, beq_iff_eq]
    constructor
    · rintro (⟨i, h, e⟩ | e)
      · exact ⟨i, by omega, e⟩
      · exact ⟨k, by omega, e⟩
    · rintro ⟨i, h, e⟩
      by_cases hik : i = k
      · exact .inr (hik ▸ e)
      · exact .inl ⟨i, by omega, e⟩
set_option maxRecDepth 100000 in
theorem PolyRoots_walk (A0 : Option Addr) (n0 c0 : Nat) (z0 : List Int) (a1 : Int) (w : World) (r0 : IsRow .u8 w A0 n0 c0 z0) (w1 : (Lit.int .u8 a1).wf = true) :
    Calls Try.prog 3 #[.slice A0 n0 c0, .int .u8 a1] w fun e w' => e = .returned (.bool true) ∧ Below w.heap.size w w' := by
  obtain ⟨p, hp0, hp1, hp2, hp3⟩ := r0.bytes
  obtain ⟨x, rfl⟩ : ∃ v : UInt8, a1 = (v.toNat : Int) := by
    have hb := bounds_u8 w1
    exact ⟨UInt8.ofNat a1.toNat, by rw [UInt8.toNat_ofNat']; omega⟩
  have HP := Lib.hid hp0
  have HR := Lib.hid (show ∀ x ∈ [(A0, p)], RdB w x.1 x.2 by
    intro x hx
    obtain rfl := List.mem_singleton.1 hx
    exact hp3)
  clear r0 w1 hp0 hp2 hp3
  by_cases hbig : 40 < n0
  · go_enter Try.func3, Try.ntmps3
    go_wp2_with fail
    refine (new_any w).mono ?_
    rintro e W0 ⟨rfl, hw⟩
    have PW := Lib.hid (PWs.start hw ([(A0, p)]) (HR.out))
    clear hw
    obtain ⟨fb, hfb⟩ : ∃ fb, w.heap.size = fb := ⟨_, rfl⟩
    rw [hfb] at PW ⊢
    go_wp2_with fail
    refine (anchor2_any fb W0 PW.out.f).mono ?_
    rintro e W00 ⟨rfl, hb⟩
    have PW2 := Lib.hid (PW.out.step hb)
    clear PW hb hfb
    have PW := PW2
    clear PW2
    go_wp2
    go_ret
    exact ⟨rfl, PW.out.bw⟩
  · have i1 : (n0 : Int) ≤ 40 := by omega
    go_enter Try.func3, Try.ntmps3
    go_wp2_with fail
    refine (new_any w).mono ?_
    rintro e W0 ⟨rfl, hw⟩
    have PW := Lib.hid (PWs.start hw ([(A0, p)]) (HR.out))
    clear hw
    obtain ⟨fb, hfb⟩ : ∃ fb, w.heap.size = fb := ⟨_, rfl⟩
    rw [hfb] at PW ⊢
    go_wp2_with fail
    refine (anchor2_any fb W0 PW.out.f).mono ?_
    rintro e W00 ⟨rfl, hb⟩
    have PW2 := Lib.hid (PW.out.step hb)
    clear PW hb hfb
    have PW := PW2
    clear PW2
    go_wp2_with fail
    refine (roots_any fb A0 n0 c0 p HP.out (by omega) W00 PW.out.f (PW.out.at 0 rfl)).mono ?_
    rintro e W1 ⟨v1, rfl, hv, hb⟩
    obtain ⟨A1, c1, rfl, hc, _, hr⟩ := hv.open
    have PW2 := Lib.hid (PW.out.add hb hr)
    obtain ⟨n1, hnn⟩ : ∃ nlen, (rootsL p).length = nlen := ⟨_, rfl⟩
    rw [hnn] at hc ⊢
    have HL1 := Lib.hid (And.intro hnn hc)
    clear PW hv hb hr hc hnn
    have PW := PW2
    clear PW2
    have hn1 : n1 = n0 + 1 := by rw [← HL1.out.1, ← HP.out]; exact rtTo_len p p.length
    subst hn1
    have HTOP := Lib.hid (show co (rootsL p) n0 = 1 by rw [← HP.out]; exact rtTo_top p p.length)
    have HEV := Lib.hid (show evalL (rootsL p) x = 0 ↔ anyB p x n0 = true by rw [anyB_iff, ← HP.out]; exact rtTo_eval p p.length x)
    go_wp2
    go_loopw [7, 22] (fun s i wr => ∃ k : Nat, k ≤ n0 ∧ i = .int .i64 k ∧ s = .bool (anyB p x k) ∧ wr = W1) (fun _ i _ => n0 - (intOf i).toNat)
    case atStart => exact ⟨0, Nat.zero_le _, rfl, rfl, rfl⟩
    case round =>
      obtain ⟨k, hk, rfl, rfl, hwr⟩ := hrel
      have hwr := hwr.symm
      subst hwr
      have i0 : (0 : Int) ≤ (k : Int) := by omega
      by_cases h1 : k < n0
      · have i2 : (k : Int) < (n0 : Int) := by omega
        obtain ⟨b, o, rfl, hc⟩ := RdB.at k (PW.out.at 0 rfl) (by have := HP.out; omega)
        have HS := Lib.hid (show anyB p x (k + 1) = (anyB p x k || (co p k == x)) from rfl)
        obtain ⟨y, hy⟩ : ∃ y, co p k = y := ⟨_, rfl⟩
        rw [hy] at hc HS
        cases hs : anyB p x k with
        | true =>
          rw [hs, Bool.true_or] at HS
          clear hs hy
          go_wp2
          go_roundw
          case rel => exact ⟨k + 1, h1, by go_num, by rw [HS.out], trivial⟩
          case measure => simp [intOf]; omega
        | false =>
          rw [hs, Bool.false_or] at HS
          by_cases he : y = x
          · have HS2 := Lib.hid (show anyB p x (k + 1) = true by rw [HS.out, he]; simp)
            have q1 : ((y.toNat : Int) == (x.toNat : Int)) = true := by rw [he]; simp
            clear hs hy he HS
            go_wp2
            go_roundw
            case rel => exact ⟨k + 1, h1, by go_num, by rw [HS2.out], trivial⟩
            case measure => simp [intOf]; omega
          · have HS2 := Lib.hid (show anyB p x (k + 1) = false by rw [HS.out]; exact beq_eq_false_iff_ne.2 he)
            have q1 : ((y.toNat : Int) == (x.toNat : Int)) = false := beq_eq_false_iff_ne.2 (u8_neP he)
            clear hs hy he HS
            go_wp2
            go_roundw
            case rel => exact ⟨k + 1, h1, by go_num, by rw [HS2.out], trivial⟩
            case measure => simp [intOf]; omega
      · obtain rfl : k = n0 := by omega
        have hr1 : RdB W1 A1 (rootsL p) := PW.out.at 1 rfl
        obtain ⟨b, o, rfl, hc⟩ := RdB.at k hr1 (by rw [HL1.out.1]; omega)
        rw [HTOP.out, show (((1 : UInt8).toNat : Nat) : Int) = 1 from rfl] at hc
        have HE := Lib.hid (refEval_any (some ⟨b, o, none⟩) (k + 1) c1 (rootsL p) HL1.out.1 (by unfold maxLen; omega) x W1 hr1)
        have i3 : IntKind.i64.wrap ((k : Int) + 1) = ((k + 1 : Nat) : Int) := by rw [show (k : Int) + 1 = ((k + 1 : Nat) : Int) from by omega]; exact IntWalk.i64_in _ (by omega)
        have i4 : IntKind.i64.wrap (((k + 1 : Nat) : Int) - 1) = (k : Int) := by rw [show ((k + 1 : Nat) : Int) - 1 = (k : Int) from by omega]; exact IntWalk.i64_in _ (by omega)
        have i5 : (k : Int) < ((k + 1 : Nat) : Int) := by omega
        obtain ⟨m, hm⟩ : ∃ m, k + 1 = m := ⟨_, rfl⟩
        rw [hm] at i3 i4 i5 HE ⊢
        obtain ⟨E, hE⟩ : ∃ E, evalL (rootsL p) x = E := ⟨_, rfl⟩
        rw [hE] at HE HEV
        cases hs : anyB p x k with
        | true =>
          rw [hs] at HEV
          obtain rfl : E = 0 := HEV.out.2 rfl
          rw [show (((0 : UInt8).toNat : Nat) : Int) = 0 from rfl] at HE
          clear hs hr1 hE hm HEV
          go_wp2_with fail
          refine (HE.out).mono ?_
          rintro e W2 ⟨rfl, qd, hq⟩
          have PW2 := Lib.hid (PW.out.drew hq)
          clear PW hq
          have PW := PW2
          clear PW2
          go_wp2
          go_ret
          exact ⟨rfl, PW.out.bw⟩
        | false =>
          rw [hs] at HEV
          have he : E ≠ 0 := fun e => by have := HEV.out.1 e; cases this
          have q0 := u8_ne0 he
          obtain ⟨z, hz⟩ : ∃ z, (E.toNat : Int) = z := ⟨_, rfl⟩
          rw [hz] at HE q0
          have q1 : (z == 0) = false := beq_eq_false_iff_ne.2 q0
          clear hs hr1 hE hm HEV he q0 hz
          go_wp2_with fail
          refine (HE.out).mono ?_
          rintro e W2 ⟨rfl, qd, hq⟩
          have PW2 := Lib.hid (PW.out.drew hq)
          clear PW hq
          have PW := PW2
          clear PW2
          go_wp2
          go_ret
          exact ⟨rfl, PW.out.bw⟩
end Go.Proofs.Yticbbkaelfbaiaa
