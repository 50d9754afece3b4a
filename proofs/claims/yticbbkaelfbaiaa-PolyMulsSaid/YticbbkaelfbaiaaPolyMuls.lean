/- PolyMuls, walked: for every two polynomials and every element the law returns true. -/
import Derived.Test.YticbbkaelfbaiaaPolyK
namespace Go.Proofs.Yticbbkaelfbaiaa
open Go.RowKit Go.Shelf
set_option linter.unusedVariables false

theorem mulL_len_le (p q : List UInt8) : (mulL p q).length ≤ p.length + q.length := by
  rw [mulL_len, tlL_mulL]
  have := tlL_le p
  have := tlL_le q
  split <;> omega
theorem mulL_tl (p q : List UInt8) : tlL (mulL p q) = (mulL p q).length := (mulL_len p q).symm
set_option maxRecDepth 100000 in
set_option maxHeartbeats 1000000 in
theorem PolyMuls_walk (A0 : Option Addr) (n0 c0 : Nat) (z0 : List Int) (A1 : Option Addr) (n1 c1 : Nat) (z1 : List Int) (a2 : Int) (w : World) (r0 : IsRow .u8 w A0 n0 c0 z0) (r1 : IsRow .u8 w A1 n1 c1 z1) (w2 : (Lit.int .u8 a2).wf = true) :
    Calls Try.prog 5 #[.slice A0 n0 c0, .slice A1 n1 c1, .int .u8 a2] w fun e w' => e = .returned (.bool true) ∧ Below w.heap.size w w' := by
  obtain ⟨p, hp0, hp1, hp2, hp3⟩ := r0.bytes
  obtain ⟨q, hq0, hq1, hq2, hq3⟩ := r1.bytes
  obtain ⟨x, rfl⟩ : ∃ v : UInt8, a2 = (v.toNat : Int) := by
    have hb := bounds_u8 w2
    exact ⟨UInt8.ofNat (a2).toNat, by rw [UInt8.toNat_ofNat']; omega⟩
  have HP := Lib.hid (And.intro hp0 hq0)
  have HC := Lib.hid (And.intro hp1 hq1)
  have HR := Lib.hid (show ∀ x ∈ [(A0, p), (A1, q)], RdB w x.1 x.2 by
    intro x hx
    simp only [List.mem_cons, List.not_mem_nil, or_false] at hx
    rcases hx with rfl | rfl
    · exact hp3
    · exact hq3)
  clear r0 r1 w2 hp0 hp1 hp2 hp3 hq0 hq1 hq2 hq3
  by_cases hb0 : 60 < n0
  · have i1 : (60 : Int) < (n0 : Int) := by omega
    go_enter Try.func5, Try.ntmps5
    go_wp2_with fail
    refine (new_any w).mono ?_
    rintro e W0 ⟨rfl, hw⟩
    have PW := Lib.hid (PWs.start hw ([(A0, p), (A1, q)]) (HR.out))
    clear hw
    obtain ⟨fb, hfb⟩ : ∃ fb, w.heap.size = fb := ⟨_, rfl⟩
    rw [hfb] at PW ⊢
    go_wp2_with fail
    refine (anchor2_any fb W0 PW.out.f).mono ?_
    rintro e W00 ⟨rfl, hb⟩
    have PW2 := Lib.hid (PW.out.step hb)
    clear PW hb hfb
    have PW := PW2
    clear PW2
    go_wp2
    go_ret
    exact ⟨rfl, PW.out.bw⟩
  have i1 : (n0 : Int) ≤ 60 := by omega
  by_cases hb1 : 60 < n1
  · have i2 : (60 : Int) < (n1 : Int) := by omega
    go_enter Try.func5, Try.ntmps5
    go_wp2_with fail
    refine (new_any w).mono ?_
    rintro e W0 ⟨rfl, hw⟩
    have PW := Lib.hid (PWs.start hw ([(A0, p), (A1, q)]) (HR.out))
    clear hw
    obtain ⟨fb, hfb⟩ : ∃ fb, w.heap.size = fb := ⟨_, rfl⟩
    rw [hfb] at PW ⊢
    go_wp2_with fail
    refine (anchor2_any fb W0 PW.out.f).mono ?_
    rintro e W00 ⟨rfl, hb⟩
    have PW2 := Lib.hid (PW.out.step hb)
    clear PW hb hfb
    have PW := PW2
    clear PW2
    go_wp2
    go_ret
    exact ⟨rfl, PW.out.bw⟩
  have i2 : (n1 : Int) ≤ 60 := by omega
  go_enter Try.func5, Try.ntmps5
  go_wp2_with fail
  refine (new_any w).mono ?_
  rintro e W0 ⟨rfl, hw⟩
  have PW := Lib.hid (PWs.start hw ([(A0, p), (A1, q)]) (HR.out))
  clear hw
  obtain ⟨fb, hfb⟩ : ∃ fb, w.heap.size = fb := ⟨_, rfl⟩
  rw [hfb] at PW ⊢
  go_wp2_with fail
  refine (anchor2_any fb W0 PW.out.f).mono ?_
  rintro e W00 ⟨rfl, hb⟩
  have PW2 := Lib.hid (PW.out.step hb)
  clear PW hb hfb
  have PW := PW2
  clear PW2
  go_wp2_with fail
  refine (pmul_any fb A0 A1 n0 n1 c0 c1 p q HP.out.1 HP.out.2 HC.out.1 HC.out.2 (by omega) (by omega) W00 PW.out.f (PW.out.at 0 rfl) (PW.out.at 1 rfl)).mono ?_
  rintro e W5 ⟨v5, rfl, hv, hb⟩
  obtain ⟨A5, c5, rfl, hc, _, hr⟩ := hv.open
  have PW2 := Lib.hid (PW.out.add hb hr)
  obtain ⟨n5, hnn⟩ : ∃ nlen, (mulL p q).length = nlen := ⟨_, rfl⟩
  rw [hnn] at hc ⊢
  have HL5 := Lib.hid (And.intro hnn hc)
  clear PW hv hb hr hc hnn
  have PW := PW2
  clear PW2
  obtain ⟨N, hN⟩ : ∃ N, n0 + n1 = N := ⟨_, rfl⟩
  have hwN : IntKind.i64.wrap ((n0 : Int) + (n1 : Int)) = (N : Int) := by rw [show (n0 : Int) + (n1 : Int) = (N : Int) from by omega]; exact IntWalk.i64_in _ (by omega)
  have hlm : n5 ≤ N := by
    have := mulL_len_le p q
    rw [HL5.out.1, HP.out.1, HP.out.2] at this
    omega
  go_wp2
  go_loopw [33] (fun i wr => ∃ k : Nat, k ≤ N ∧ i = .int .i64 k ∧ PWs w fb [(A0, p), (A1, q), (A5, mulL p q)] wr) (fun i _ => N - (intOf i).toNat)
  case atStart => exact ⟨0, Nat.zero_le _, rfl, PW.out⟩
  case round =>
    obtain ⟨k, hk, rfl, hpw⟩ := hrel
    clear PW
    have PW := Lib.hid hpw
    clear hpw
    have i0 : (0 : Int) ≤ (k : Int) := by omega
    by_cases h1 : k < N
    · have i3 : (k : Int) < (N : Int) := by omega
      have HA := Lib.hid (fun W h => refAtN_any A5 n5 c5 (mulL p q) HL5.out.1 k W h)
      have HB := Lib.hid (fun W h1 h2 => refProduct_any A0 A1 n0 n1 c0 c1 p q HP.out.1 HP.out.2 (by unfold maxLen; omega) (by unfold maxLen; omega) k (by omega) W h1 h2)
      rw [co_mulL] at HA
      obtain ⟨y, hy⟩ : ∃ y, ((conv (co p) (co q) k).toNat : Int) = y := ⟨_, rfl⟩
      rw [hy] at HA HB
      have q1 : (y != y) = false := by simp
      clear hy
      go_wp2_with fail
      refine (HA.out wr (PW.out.at 2 rfl)).mono ?_
      rintro e W6 ⟨rfl, hq⟩
      subst hq
      go_wp2_with fail
      refine (HB.out wr (PW.out.at 0 rfl) (PW.out.at 1 rfl)).mono ?_
      rintro e W7 ⟨rfl, qd, hq⟩
      have PW2 := Lib.hid (PW.out.drew hq)
      clear PW hq
      have PW := PW2
      clear PW2
      go_wp2
      go_roundw
      case rel => exact ⟨k + 1, by omega, by go_num, PW.out⟩
      case measure => simp [intOf]; omega
    · obtain rfl : k = N := by omega
      have HV := Lib.hid (fun W hf h => peval_any fb A0 n0 c0 p x HP.out.1 (by omega) W hf h)
      have HW := Lib.hid (fun W hf h => peval_any fb A1 n1 c1 q x HP.out.2 (by omega) W hf h)
      have HM := Lib.hid (fun W hf h => peval_any fb A5 n5 c5 (mulL p q) x HL5.out.1 (by omega) W hf h)
      rw [evalL_mulL] at HM
      have HE := Lib.hid (fun W h => refEval_any A0 n0 c0 p HP.out.1 (by unfold maxLen; omega) x W h)
      have HX := Lib.hid (fun W => rmul_any (evalL p x) (evalL q x) W)
      have HT := Lib.hid (fun W h => trimmed_any A5 n5 c5 (mulL p q) HL5.out.1 (by unfold maxLen; omega) W h)
      rw [show decide (tlL (mulL p q) = n5) = true from decide_eq_true (by rw [mulL_tl, HL5.out.1])] at HT
      obtain ⟨u, hu⟩ : ∃ u, evalL p x = u := ⟨_, rfl⟩
      obtain ⟨v, hv⟩ : ∃ v, evalL q x = v := ⟨_, rfl⟩
      rw [hu] at HV HM HE HX
      rw [hv] at HW HM HX
      obtain ⟨z, hz⟩ : ∃ z, gm u v = z := ⟨_, rfl⟩
      rw [hz] at HM HX
      have i4 : (n5 : Int) ≤ (k : Int) := by omega
      clear hu hv hz hlm
      go_wp2_with fail
      refine (HV.out wr PW.out.f (PW.out.at 0 rfl)).mono ?_
      rintro e W6 ⟨rfl, hb⟩
      have PW2 := Lib.hid (PW.out.step hb)
      clear PW hb
      have PW := PW2
      clear PW2
      go_wp2_with fail
      refine (HW.out W6 PW.out.f (PW.out.at 1 rfl)).mono ?_
      rintro e W7 ⟨rfl, hb⟩
      have PW2 := Lib.hid (PW.out.step hb)
      clear PW hb
      have PW := PW2
      clear PW2
      go_wp2_with fail
      refine (HT.out W7 (PW.out.at 2 rfl)).mono ?_
      rintro e W8 ⟨rfl, hq⟩
      subst hq
      go_wp2_with fail
      refine (HE.out W7 (PW.out.at 0 rfl)).mono ?_
      rintro e W9 ⟨rfl, qd, hq⟩
      have PW2 := Lib.hid (PW.out.drew hq)
      clear PW hq
      have PW := PW2
      clear PW2
      go_wp2_with fail
      refine (HM.out W9 PW.out.f (PW.out.at 2 rfl)).mono ?_
      rintro e W10 ⟨rfl, hb⟩
      have PW2 := Lib.hid (PW.out.step hb)
      clear PW hb
      have PW := PW2
      clear PW2
      go_wp2_with fail
      refine (HX.out W10).mono ?_
      rintro e W11 ⟨rfl, hq⟩
      subst hq
      go_wp2
      go_ret
      exact ⟨rfl, PW.out.bw⟩
end Go.Proofs.Yticbbkaelfbaiaa
