/- PolyAdds, walked: for every two polynomials, element and number the law returns true. -/
import Derived.Test.YticbbkaelfbaiaaPolyK
namespace Go.Proofs.Yticbbkaelfbaiaa
open Go.RowKit Go.Shelf
set_option linter.unusedVariables false

theorem trimL_tl (p : List UInt8) : tlL (trimL p) = (trimL p).length := by rw [tlL_trimL, trimL_len]
theorem trimL_le (p : List UInt8) : (trimL p).length ≤ p.length := by rw [trimL_len]; exact tlL_le p
set_option maxRecDepth 100000 in
set_option maxHeartbeats 1000000 in
theorem PolyAdds_walk (A0 : Option Addr) (n0 c0 : Nat) (z0 : List Int) (A1 : Option Addr) (n1 c1 : Nat) (z1 : List Int) (a2 a3 : Int) (w : World) (r0 : IsRow .u8 w A0 n0 c0 z0) (r1 : IsRow .u8 w A1 n1 c1 z1) (w2 : (Lit.int .u8 a2).wf = true) (w3 : (Lit.int .i64 a3).wf = true) :
    Calls Try.prog 7 #[.slice A0 n0 c0, .slice A1 n1 c1, .int .u8 a2, .int .i64 a3] w fun e w' => e = .returned (.bool true) ∧ Below w.heap.size w w' := by
  obtain ⟨p, hp0, hp1, hp2, hp3⟩ := r0.bytes
  obtain ⟨q, hq0, hq1, hq2, hq3⟩ := r1.bytes
  obtain ⟨a, rfl⟩ : ∃ v : UInt8, a2 = (v.toNat : Int) := by
    have hb := bounds_u8 w2
    exact ⟨UInt8.ofNat (a2).toNat, by rw [UInt8.toNat_ofNat']; omega⟩
  obtain ⟨y0, y1⟩ := bounds_i64 w3
  have HP := Lib.hid (And.intro hp0 hq0)
  have HC := Lib.hid (And.intro hp1 hq1)
  have HNIL := Lib.hid r0.none
  have HR := Lib.hid (show ∀ x ∈ [(A0, p), (A1, q)], RdB w x.1 x.2 by
    intro x hx
    simp only [List.mem_cons, List.not_mem_nil, or_false] at hx
    rcases hx with rfl | rfl
    · exact hp3
    · exact hq3)
  clear r0 r1 w2 w3 hp0 hp1 hp2 hp3 hq0 hq1 hq2 hq3
  by_cases hb0 : 300 < n0
  · have i1 : (300 : Int) < (n0 : Int) := by omega
    clear y0 y1
    go_enter Try.func7, Try.ntmps7
    go_wp2_with fail
    refine (new_any w).mono ?_
    rintro e W0 ⟨rfl, hw⟩
    have PW := Lib.hid (PWs.start hw ([(A0, p), (A1, q)]) (HR.out))
    clear hw
    obtain ⟨fb, hfb⟩ : ∃ fb, w.heap.size = fb := ⟨_, rfl⟩
    rw [hfb] at PW ⊢
    go_wp2_with fail
    refine (anchor2_any fb W0 PW.out.f).mono ?_
    rintro e W00 ⟨rfl, hb⟩
    have PW2 := Lib.hid (PW.out.step hb)
    clear PW hb hfb
    have PW := PW2
    clear PW2
    go_wp2
    go_ret
    exact ⟨rfl, PW.out.bw⟩
  have i1 : (n0 : Int) ≤ 300 := by omega
  by_cases hb1 : 300 < n1
  · have i2 : (300 : Int) < (n1 : Int) := by omega
    clear y0 y1
    go_enter Try.func7, Try.ntmps7
    go_wp2_with fail
    refine (new_any w).mono ?_
    rintro e W0 ⟨rfl, hw⟩
    have PW := Lib.hid (PWs.start hw ([(A0, p), (A1, q)]) (HR.out))
    clear hw
    obtain ⟨fb, hfb⟩ : ∃ fb, w.heap.size = fb := ⟨_, rfl⟩
    rw [hfb] at PW ⊢
    go_wp2_with fail
    refine (anchor2_any fb W0 PW.out.f).mono ?_
    rintro e W00 ⟨rfl, hb⟩
    have PW2 := Lib.hid (PW.out.step hb)
    clear PW hb hfb
    have PW := PW2
    clear PW2
    go_wp2
    go_ret
    exact ⟨rfl, PW.out.bw⟩
  have i2 : (n1 : Int) ≤ 300 := by omega
  by_cases hb2 : 300 < a3
  · clear y0 y1
    go_enter Try.func7, Try.ntmps7
    go_wp2_with fail
    refine (new_any w).mono ?_
    rintro e W0 ⟨rfl, hw⟩
    have PW := Lib.hid (PWs.start hw ([(A0, p), (A1, q)]) (HR.out))
    clear hw
    obtain ⟨fb, hfb⟩ : ∃ fb, w.heap.size = fb := ⟨_, rfl⟩
    rw [hfb] at PW ⊢
    go_wp2_with fail
    refine (anchor2_any fb W0 PW.out.f).mono ?_
    rintro e W00 ⟨rfl, hb⟩
    have PW2 := Lib.hid (PW.out.step hb)
    clear PW hb hfb
    have PW := PW2
    clear PW2
    go_wp2
    go_ret
    exact ⟨rfl, PW.out.bw⟩
  have i3 : a3 ≤ 300 := by omega
  obtain ⟨K, hK⟩ : ∃ K, a3.toNat = K := ⟨_, rfl⟩
  have k1 : max a3 0 = (K : Int) := by omega
  have k2 : (if a3 < 0 then 0 else a3) = (K : Int) := by split <;> omega
  have k3 : (if 0 < a3 then a3 else 0) = (K : Int) := by split <;> omega
  have hK300 : K ≤ 300 := by omega
  obtain ⟨M, hM⟩ : ∃ M, max n0 n1 = M := ⟨_, rfl⟩
  have m1 : max (n0 : Int) (n1 : Int) = (M : Int) := by omega
  have m2 : (if (n0 : Int) < (n1 : Int) then (n1 : Int) else (n0 : Int)) = (M : Int) := by split <;> omega
  have m3 : (if (n1 : Int) < (n0 : Int) then (n0 : Int) else (n1 : Int)) = (M : Int) := by split <;> omega
  have HSH := Lib.hid (fun W h => shift_any A0 n0 c0 p a3 HP.out.1 HNIL.out (by omega) (by omega) y0 W h)
  rw [hK] at HSH
  have HMM := Lib.hid (And.intro hK hM)
  clear y0 y1 hK hM hb2
  go_enter Try.func7, Try.ntmps7
  go_wp2_with fail
  refine (new_any w).mono ?_
  rintro e W0 ⟨rfl, hw⟩
  have PW := Lib.hid (PWs.start hw ([(A0, p), (A1, q)]) (HR.out))
  clear hw
  obtain ⟨fb, hfb⟩ : ∃ fb, w.heap.size = fb := ⟨_, rfl⟩
  rw [hfb] at PW ⊢
  go_wp2_with fail
  refine (anchor2_any fb W0 PW.out.f).mono ?_
  rintro e W00 ⟨rfl, hb⟩
  have PW2 := Lib.hid (PW.out.step hb)
  clear PW hb hfb
  have PW := PW2
  clear PW2
  go_wp2_with fail
  refine (add_any A0 A1 n0 n1 c0 c1 p q HP.out.1 HP.out.2 (by omega) (by omega) W00 (PW.out.at 0 rfl) (PW.out.at 1 rfl)).mono ?_
  rintro e W5 ⟨v5, rfl, hv, hb⟩
  obtain ⟨A5, c5, rfl, hc, _, hr⟩ := hv.open
  have PW2 := Lib.hid (PW.out.add hb hr)
  obtain ⟨n5, hnn⟩ : ∃ nlen, (addL p q).length = nlen := ⟨_, rfl⟩
  rw [hnn] at hc ⊢
  have HL5 := Lib.hid (And.intro hnn hc)
  clear PW hv hb hr hc hnn
  have PW := PW2
  clear PW2
  go_wp2_with fail
  refine (scale_any fb A0 n0 c0 p a HP.out.1 (by omega) W5 PW.out.f (PW.out.at 0 rfl)).mono ?_
  rintro e W6 ⟨v6, rfl, hv, hb⟩
  obtain ⟨A6, c6, rfl, hc, _, hr⟩ := hv.open
  have PW2 := Lib.hid (PW.out.add hb hr)
  obtain ⟨n6, hnn⟩ : ∃ nlen, (scaleL p a).length = nlen := ⟨_, rfl⟩
  rw [hnn] at hc ⊢
  have HL6 := Lib.hid (And.intro hnn hc)
  clear PW hv hb hr hc hnn
  have PW := PW2
  clear PW2
  go_wp2_with fail
  refine (HSH.out W6 (PW.out.at 0 rfl)).mono ?_
  rintro e W7 ⟨v7, rfl, hv, hb⟩
  obtain ⟨A7, c7, rfl, hc, _, hr⟩ := hv.open
  have PW2 := Lib.hid (PW.out.add hb hr)
  obtain ⟨n7, hnn⟩ : ∃ nlen, (shiftL p K).length = nlen := ⟨_, rfl⟩
  rw [hnn] at hc ⊢
  have HL7 := Lib.hid (And.intro hnn hc)
  clear PW hv hb hr hc hnn
  have PW := PW2
  clear PW2
  go_wp2_with fail
  refine (trim_any A0 n0 c0 p HP.out.1 HC.out.1 (by omega) W7 (PW.out.at 0 rfl)).mono ?_
  rintro e W8 ⟨v8, rfl, hv, hb⟩
  obtain ⟨A8, c8, rfl, hc, _, hr⟩ := hv.open
  have PW2 := Lib.hid (PW.out.add hb hr)
  obtain ⟨n8, hnn⟩ : ∃ nlen, (trimL p).length = nlen := ⟨_, rfl⟩
  rw [hnn] at hc ⊢
  have HL8 := Lib.hid (And.intro hnn hc)
  clear PW hv hb hr hc hnn
  have PW := PW2
  clear PW2
  go_wp2
  go_loopw [53] (fun i wr => ∃ k : Nat, k ≤ M ∧ i = .int .i64 k ∧ wr = W8) (fun i _ => M - (intOf i).toNat)
  case atStart => exact ⟨0, Nat.zero_le _, rfl, rfl⟩
  case round =>
    obtain ⟨k, hk, rfl, hwr⟩ := hrel
    have hwr := hwr.symm
    subst hwr
    have i0 : (0 : Int) ≤ (k : Int) := by omega
    by_cases h1 : k < M
    · have i4 : (k : Int) < (M : Int) := by omega
      have hM := HMM.out.2
      obtain ⟨t, ht⟩ : ∃ t, k + K = t := ⟨_, rfl⟩
      have hwt : IntKind.i64.wrap ((k : Int) + (K : Int)) = (t : Int) := by rw [show (k : Int) + (K : Int) = (t : Int) from by omega]; exact IntWalk.i64_in _ (by omega)
      have H0 := Lib.hid (fun W h => refAtN_any A0 n0 c0 p HP.out.1 k W h)
      have H1 := Lib.hid (fun W h => refAtN_any A1 n1 c1 q HP.out.2 k W h)
      have H2 := Lib.hid (fun W h => refAtN_any A5 n5 c5 (addL p q) HL5.out.1 k W h)
      have H3 := Lib.hid (fun W h => refAtN_any A6 n6 c6 (scaleL p a) HL6.out.1 k W h)
      have H4 := Lib.hid (fun W h => refAtN_any A7 n7 c7 (shiftL p K) HL7.out.1 t W h)
      rw [co_addL] at H2
      rw [co_scaleL, gm_comm] at H3
      rw [co_shiftL, if_neg (by omega), show t - K = k from by omega] at H4
      obtain ⟨x, hx⟩ : ∃ x, co p k = x := ⟨_, rfl⟩
      obtain ⟨y, hy⟩ : ∃ y, co q k = y := ⟨_, rfl⟩
      rw [hx] at H0 H2 H3 H4
      rw [hy] at H1 H2
      have hxor := u8_xorP x y
      have HX := Lib.hid (fun W => rmul_any x a W)
      obtain ⟨s, hs⟩ : ∃ s, x ^^^ y = s := ⟨_, rfl⟩
      obtain ⟨g, hg⟩ : ∃ g, gm x a = g := ⟨_, rfl⟩
      rw [hs] at hxor H2
      rw [hg] at HX H3
      have q1 : ((s.toNat : Int) != (s.toNat : Int)) = false := by simp
      have q2 : ((g.toNat : Int) != (g.toNat : Int)) = false := by simp
      have q3 : ((x.toNat : Int) != (x.toNat : Int)) = false := by simp
      clear hx hy hs hg ht hM
      go_wp2_with fail
      refine (H0.out _ (PW.out.at 0 rfl)).mono ?_
      rintro e W9 ⟨rfl, hq⟩
      subst hq
      go_wp2_with fail
      refine (H2.out _ (PW.out.at 2 rfl)).mono ?_
      rintro e W10 ⟨rfl, hq⟩
      subst hq
      go_wp2_with fail
      refine (H1.out _ (PW.out.at 1 rfl)).mono ?_
      rintro e W11 ⟨rfl, hq⟩
      subst hq
      go_wp2_with fail
      refine (H3.out _ (PW.out.at 3 rfl)).mono ?_
      rintro e W12 ⟨rfl, hq⟩
      subst hq
      go_wp2_with fail
      refine (HX.out _).mono ?_
      rintro e W13 ⟨rfl, hq⟩
      subst hq
      go_wp2_with fail
      refine (H4.out _ (PW.out.at 4 rfl)).mono ?_
      rintro e W14 ⟨rfl, hq⟩
      subst hq
      go_wp2
      go_roundw
      case rel => exact ⟨k + 1, by omega, by go_num, trivial⟩
      case measure => simp [intOf]; omega
    · obtain rfl : k = M := by omega
      go_wp2
      go_loopw [88] (fun i wr => ∃ k : Nat, k ≤ K ∧ i = .int .i64 k ∧ wr = W8) (fun i _ => K - (intOf i).toNat)
      case atStart => exact ⟨0, Nat.zero_le _, rfl, rfl⟩
      case round =>
        obtain ⟨j, hj, rfl, hwr⟩ := hrel
        have hwr := hwr.symm
        subst hwr
        have i0 : (0 : Int) ≤ (j : Int) := by omega
        by_cases h1 : j < K
        · have i4 : (j : Int) < (K : Int) := by omega
          have H4 := Lib.hid (fun W h => refAtN_any A7 n7 c7 (shiftL p K) HL7.out.1 j W h)
          rw [co_shiftL, if_pos h1, show (((0 : UInt8).toNat : Nat) : Int) = 0 from rfl] at H4
          go_wp2_with fail
          refine (H4.out _ (PW.out.at 4 rfl)).mono ?_
          rintro e W9 ⟨rfl, hq⟩
          subst hq
          go_wp2
          go_roundw
          case rel => exact ⟨j + 1, by omega, by go_num, trivial⟩
          case measure => simp [intOf]; omega
        · obtain rfl : j = K := by omega
          have hM := HMM.out.2
          have HD := Lib.hid (fun W h => degree_any A0 n0 c0 p HP.out.1 (by unfold maxLen; omega) W h)
          have HD2 := Lib.hid (fun W h => refDegree_any A0 n0 c0 p HP.out.1 (by unfold maxLen; omega) W h)
          have HS := Lib.hid (fun W h1 h2 => refSame_any A8 A0 n8 n0 c8 c0 (trimL p) p HL8.out.1 HP.out.1 (by have := trimL_le p; rw [HL8.out.1, HP.out.1] at this; unfold maxLen; omega) (by unfold maxLen; omega) W h1 h2)
          rw [sameB_true (co_trimL p)] at HS
          have l5 : n5 ≤ k := by rw [← HL5.out.1]; refine Nat.le_trans (trimL_le _) ?_; rw [ofF_len, HP.out.1, HP.out.2, hM]; exact Nat.le_refl _
          have l6 : n6 ≤ n0 := by rw [← HL6.out.1]; refine Nat.le_trans (trimL_le _) ?_; rw [ofF_len, HP.out.1]; exact Nat.le_refl _
          have l7 : n7 ≤ n0 + j := by rw [← HL7.out.1]; refine Nat.le_trans (trimL_le _) ?_; simp [HP.out.1]; omega
          have l8 : n8 ≤ n0 := by rw [← HL8.out.1, ← HP.out.1]; exact trimL_le _
          have HT5 := Lib.hid (fun W h => trimmed_any A5 n5 c5 (addL p q) HL5.out.1 (by unfold maxLen; omega) W h)
          rw [show decide (tlL (addL p q) = n5) = true from decide_eq_true ((trimL_tl _).trans HL5.out.1)] at HT5
          have HT6 := Lib.hid (fun W h => trimmed_any A6 n6 c6 (scaleL p a) HL6.out.1 (by unfold maxLen; omega) W h)
          rw [show decide (tlL (scaleL p a) = n6) = true from decide_eq_true ((trimL_tl _).trans HL6.out.1)] at HT6
          have HT7 := Lib.hid (fun W h => trimmed_any A7 n7 c7 (shiftL p j) HL7.out.1 (by unfold maxLen; omega) W h)
          rw [show decide (tlL (shiftL p j) = n7) = true from decide_eq_true ((trimL_tl _).trans HL7.out.1)] at HT7
          have HT8 := Lib.hid (fun W h => trimmed_any A8 n8 c8 (trimL p) HL8.out.1 (by unfold maxLen; omega) W h)
          rw [show decide (tlL (trimL p) = n8) = true from decide_eq_true ((trimL_tl _).trans HL8.out.1)] at HT8
          have j5 : (n5 : Int) ≤ (k : Int) := by omega
          have j6 : (n6 : Int) ≤ (n0 : Int) := by omega
          obtain ⟨S, hS⟩ : ∃ S, n0 + j = S := ⟨_, rfl⟩
          have hwS : IntKind.i64.wrap ((n0 : Int) + (j : Int)) = (S : Int) := by rw [show (n0 : Int) + (j : Int) = (S : Int) from by omega]; exact IntWalk.i64_in _ (by omega)
          have j7 : (n7 : Int) ≤ (S : Int) := by omega
          obtain ⟨d, hd⟩ : ∃ d : Int, (tlL p : Int) - 1 = d := ⟨_, rfl⟩
          rw [hd] at HD HD2
          have q1 : (d == d) = true := by simp
          clear hd hM l5 l6 l7 l8 hS
          go_wp2_with fail
          refine (HD.out _ (PW.out.at 0 rfl)).mono ?_
          rintro e W9 ⟨rfl, hq⟩
          subst hq
          go_wp2_with fail
          refine (HD2.out _ (PW.out.at 0 rfl)).mono ?_
          rintro e W10 ⟨rfl, hq⟩
          subst hq
          go_wp2_with fail
          refine (HS.out _ (PW.out.at 5 rfl) (PW.out.at 0 rfl)).mono ?_
          rintro e W11 ⟨rfl, hq⟩
          subst hq
          go_wp2_with fail
          refine (HT8.out _ (PW.out.at 5 rfl)).mono ?_
          rintro e W12 ⟨rfl, hq⟩
          subst hq
          go_wp2_with fail
          refine (HT5.out _ (PW.out.at 2 rfl)).mono ?_
          rintro e W13 ⟨rfl, hq⟩
          subst hq
          go_wp2_with fail
          refine (HT6.out _ (PW.out.at 3 rfl)).mono ?_
          rintro e W14 ⟨rfl, hq⟩
          subst hq
          go_wp2_with fail
          refine (HT7.out _ (PW.out.at 4 rfl)).mono ?_
          rintro e W15 ⟨rfl, hq⟩
          subst hq
          go_wp2
          go_ret
          exact ⟨rfl, PW.out.bw⟩
end Go.Proofs.Yticbbkaelfbaiaa
