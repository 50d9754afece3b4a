/- PolyValues, walked: for every two polynomials, two elements and number the law returns true. -/
import Derived.Test.YticbbkaelfbaiaaPolyK
import Derived.Test.YticbbkaelfbaiaaPolyL3
namespace Go.Proofs.Yticbbkaelfbaiaa
open Go.RowKit Go.Shelf
set_option linter.unusedVariables false

theorem gpow_pw (x : UInt8) (n : Nat) : gpow x.toNat n = (pw x n).toNat := by
  induction n with
  | zero => rfl
  | succ n ih => rw [gpow, ih, pw, gm_toNat]
theorem rpow_any (x : UInt8) (n : Nat) (hn : n < 9223372036854775808) (w : World) :
    Calls Try.prog 27 #[.int .u8 (x.toNat : Int), .int .i64 (n : Int)] w fun e w' => e = .returned (.int .u8 ((pw x n).toNat : Int)) ∧ w = w' := by
  rw [← gpow_pw]
  exact refPow_any _ _ x.toNat n rfl rfl x.toNat_lt hn w
set_option maxRecDepth 100000 in
set_option maxHeartbeats 1000000 in
theorem PolyValues_walk (A0 : Option Addr) (n0 c0 : Nat) (z0 : List Int) (A1 : Option Addr) (n1 c1 : Nat) (z1 : List Int) (a2 a3 a4 : Int) (w : World) (r0 : IsRow .u8 w A0 n0 c0 z0) (r1 : IsRow .u8 w A1 n1 c1 z1) (w2 : (Lit.int .u8 a2).wf = true) (w3 : (Lit.int .u8 a3).wf = true) (w4 : (Lit.int .i64 a4).wf = true) :
    Calls Try.prog 8 #[.slice A0 n0 c0, .slice A1 n1 c1, .int .u8 a2, .int .u8 a3, .int .i64 a4] w fun e w' => e = .returned (.bool true) ∧ Below w.heap.size w w' := by
  obtain ⟨p, hp0, hp1, hp2, hp3⟩ := r0.bytes
  obtain ⟨q, hq0, hq1, hq2, hq3⟩ := r1.bytes
  obtain ⟨a, rfl⟩ : ∃ v : UInt8, a2 = (v.toNat : Int) := by
    have hb := bounds_u8 w2
    exact ⟨UInt8.ofNat (a2).toNat, by rw [UInt8.toNat_ofNat']; omega⟩
  obtain ⟨x, rfl⟩ : ∃ v : UInt8, a3 = (v.toNat : Int) := by
    have hb := bounds_u8 w3
    exact ⟨UInt8.ofNat (a3).toNat, by rw [UInt8.toNat_ofNat']; omega⟩
  have HP := Lib.hid (And.intro hp0 hq0)
  have HC := Lib.hid (And.intro hp1 hq1)
  have HNIL := Lib.hid r0.none
  have HR := Lib.hid (show ∀ x ∈ [(A0, p), (A1, q)], RdB w x.1 x.2 by
    intro x hx
    simp only [List.mem_cons, List.not_mem_nil, or_false] at hx
    rcases hx with rfl | rfl
    · exact hp3
    · exact hq3)
  clear r0 r1 w2 w3 w4 hp0 hp1 hp2 hp3 hq0 hq1 hq2 hq3
  by_cases hb0 : 60 < n0
  · have i1 : (60 : Int) < (n0 : Int) := by omega
    go_enter Try.func8, Try.ntmps8
    go_wp2_with fail
    refine (new_any w).mono ?_
    rintro e W0 ⟨rfl, hw⟩
    have PW := Lib.hid (PWs.start hw ([(A0, p), (A1, q)]) (HR.out))
    clear hw
    obtain ⟨fb, hfb⟩ : ∃ fb, w.heap.size = fb := ⟨_, rfl⟩
    rw [hfb] at PW ⊢
    go_wp2_with fail
    refine (anchor2_any fb W0 PW.out.f).mono ?_
    rintro e W00 ⟨rfl, hb⟩
    have PW2 := Lib.hid (PW.out.step hb)
    clear PW hb hfb
    have PW := PW2
    clear PW2
    go_wp2
    go_ret
    exact ⟨rfl, PW.out.bw⟩
  have i1 : (n0 : Int) ≤ 60 := by omega
  by_cases hb1 : 60 < n1
  · have i2 : (60 : Int) < (n1 : Int) := by omega
    go_enter Try.func8, Try.ntmps8
    go_wp2_with fail
    refine (new_any w).mono ?_
    rintro e W0 ⟨rfl, hw⟩
    have PW := Lib.hid (PWs.start hw ([(A0, p), (A1, q)]) (HR.out))
    clear hw
    obtain ⟨fb, hfb⟩ : ∃ fb, w.heap.size = fb := ⟨_, rfl⟩
    rw [hfb] at PW ⊢
    go_wp2_with fail
    refine (anchor2_any fb W0 PW.out.f).mono ?_
    rintro e W00 ⟨rfl, hb⟩
    have PW2 := Lib.hid (PW.out.step hb)
    clear PW hb hfb
    have PW := PW2
    clear PW2
    go_wp2
    go_ret
    exact ⟨rfl, PW.out.bw⟩
  have i2 : (n1 : Int) ≤ 60 := by omega
  by_cases hb2 : a4 < 0
  · go_enter Try.func8, Try.ntmps8
    go_wp2_with fail
    refine (new_any w).mono ?_
    rintro e W0 ⟨rfl, hw⟩
    have PW := Lib.hid (PWs.start hw ([(A0, p), (A1, q)]) (HR.out))
    clear hw
    obtain ⟨fb, hfb⟩ : ∃ fb, w.heap.size = fb := ⟨_, rfl⟩
    rw [hfb] at PW ⊢
    go_wp2_with fail
    refine (anchor2_any fb W0 PW.out.f).mono ?_
    rintro e W00 ⟨rfl, hb⟩
    have PW2 := Lib.hid (PW.out.step hb)
    clear PW hb hfb
    have PW := PW2
    clear PW2
    go_wp2
    go_ret
    exact ⟨rfl, PW.out.bw⟩
  by_cases hb3 : 60 < a4
  · have i3 : 0 ≤ a4 := by omega
    clear hb2
    go_enter Try.func8, Try.ntmps8
    go_wp2_with fail
    refine (new_any w).mono ?_
    rintro e W0 ⟨rfl, hw⟩
    have PW := Lib.hid (PWs.start hw ([(A0, p), (A1, q)]) (HR.out))
    clear hw
    obtain ⟨fb, hfb⟩ : ∃ fb, w.heap.size = fb := ⟨_, rfl⟩
    rw [hfb] at PW ⊢
    go_wp2_with fail
    refine (anchor2_any fb W0 PW.out.f).mono ?_
    rintro e W00 ⟨rfl, hb⟩
    have PW2 := Lib.hid (PW.out.step hb)
    clear PW hb hfb
    have PW := PW2
    clear PW2
    go_wp2
    go_ret
    exact ⟨rfl, PW.out.bw⟩
  obtain ⟨n, rfl⟩ := Int.eq_ofNat_of_zero_le (show 0 ≤ a4 by omega)
  have i3 : (0 : Int) ≤ (n : Int) := by omega
  have i4 : (n : Int) ≤ 60 := by omega
  clear hb2 hb3
  have HSH := Lib.hid (fun W h => shift_any A0 n0 c0 p (n : Int) HP.out.1 HNIL.out (by omega) (by omega) (by omega) W h)
  rw [Int.toNat_natCast] at HSH
  have HQT := Lib.hid (show gm (co [x, 1] (tlL [x, 1] - 1)) (gi (co [x, 1] (tlL [x, 1] - 1))) = 1 from gm_gi (tlL_top [x, 1] (t := tlL [x, 1] - 1) (by rw [tlL_lin])))
  obtain ⟨t, ht⟩ : ∃ t, gi (co [x, 1] (tlL [x, 1] - 1)) = t := ⟨_, rfl⟩
  have HTT := Lib.hid ht
  rw [ht] at HQT
  have HLM := Lib.hid (show tlL (modL p [x, 1] t) ≤ 1 by
    have := (modL_spec (p := p) (q := [x, 1]) (t := t) (by rw [tlL_lin]; omega) HQT.out).2
    rw [tlL_lin] at this
    omega)
  have HEM := Lib.hid (show co (modL p [x, 1] t) 0 = evalL p x by
    rw [← modL_eval (p := p) (q := [x, 1]) (t := t) (x := x) (by rw [tlL_lin]; omega) HQT.out (by rw [eval_lin, UInt8.xor_self])]
    exact (eval_short HLM.out x).symm)
  clear ht
  go_enter Try.func8, Try.ntmps8
  go_wp2_with fail
  refine (new_any w).mono ?_
  rintro e W0 ⟨rfl, hw⟩
  have PW := Lib.hid (PWs.start hw ([(A0, p), (A1, q)]) (HR.out))
  clear hw
  obtain ⟨fb, hfb⟩ : ∃ fb, w.heap.size = fb := ⟨_, rfl⟩
  rw [hfb] at PW ⊢
  go_wp2_with fail
  refine (anchor2_any fb W0 PW.out.f).mono ?_
  rintro e W00 ⟨rfl, hb⟩
  have PW2 := Lib.hid (PW.out.step hb)
  clear PW hb hfb
  have PW := PW2
  clear PW2
  have HV := Lib.hid (fun W h => refEval_any A0 n0 c0 p HP.out.1 (by unfold maxLen; omega) x W h)
  go_wp2_with fail
  refine (HV.out _ (PW.out.at 0 rfl)).mono ?_
  rintro e W2 ⟨rfl, qd, hq⟩
  have PW2 := Lib.hid (PW.out.drew hq)
  clear PW hq
  have PW := PW2
  clear PW2
  go_wp2_with fail
  have PW2 := Lib.hid (PW.out.add (below_lit W2 (rowV [x, 1] []) 5) (rd_lit W2 [x, 1]))
  clear PW
  have PW := PW2
  clear PW2
  have HM1 := Lib.hid (pmod_any fb A0 (some ⟨W2.heap.size, 0, none⟩) n0 2 c0 2 p [x, 1] HP.out.1 rfl (by omega) (by omega) (by rw [tlL_lin]; omega) _ PW.out.f (PW.out.at 0 rfl) (PW.out.at 2 rfl))
  rw [HTT.out] at HM1
  refine (HM1.out).mono ?_
  rintro e W3 ⟨v3, rfl, hv, hb⟩
  obtain ⟨A3, c3, rfl, hc, _, hr⟩ := hv.open
  have PW2 := Lib.hid (PW.out.add hb hr)
  obtain ⟨n3, hnn⟩ : ∃ nlen, (modL p [x, 1] t).length = nlen := ⟨_, rfl⟩
  rw [hnn] at hc ⊢
  have HL3 := Lib.hid (And.intro hnn hc)
  clear PW hv hb hr hc hnn
  have PW := PW2
  clear PW2
  have h3 : n3 ≤ 1 := by
    have h := HLM.out
    rw [modL_trimmed, HL3.out.1] at h
    exact h
  go_wp2_with fail
  refine (add_any A0 A1 n0 n1 c0 c1 p q HP.out.1 HP.out.2 (by omega) (by omega) _ (PW.out.at 0 rfl) (PW.out.at 1 rfl)).mono ?_
  rintro e W4 ⟨v4, rfl, hv, hb⟩
  obtain ⟨A4, c4, rfl, hc, _, hr⟩ := hv.open
  have PW2 := Lib.hid (PW.out.add hb hr)
  obtain ⟨n4, hnn⟩ : ∃ nlen, (addL p q).length = nlen := ⟨_, rfl⟩
  rw [hnn] at hc ⊢
  have HL4 := Lib.hid (And.intro hnn hc)
  clear PW hv hb hr hc hnn
  have PW := PW2
  clear PW2
  have h4 : n4 ≤ 60 := by
    have h : (addL p q).length ≤ max p.length q.length := by
      unfold addL
      rw [trimL_len]
      exact Nat.le_trans (tlL_le _) (by rw [ofF_len]; exact Nat.le_refl _)
    rw [HL4.out.1, HP.out.1, HP.out.2] at h
    omega
  have HE4 := Lib.hid (fun W hf h => peval_any fb A4 n4 c4 (addL p q) x HL4.out.1 (by omega) W hf h)
  have HQ := Lib.hid (fun W h => refEval_any A1 n1 c1 q HP.out.2 (by unfold maxLen; omega) x W h)
  rw [evalL_addL] at HE4
  have HX2 := Lib.hid (fun W => rmul_any (evalL p x) a W)
  have HX3 := Lib.hid (fun W => rmul_any (evalL p x) (pw x n) W)
  have HPW := Lib.hid (fun W => rpow_any x n (by omega) W)
  have HE5 := Lib.hid (fun A c m hm W hf h => peval_any fb A m c (scaleL p a) x hm (by
    have h : (scaleL p a).length ≤ p.length := by
      unfold scaleL
      rw [trimL_len]
      exact Nat.le_trans (tlL_le _) (by rw [ofF_len]; exact Nat.le_refl _)
    rw [hm, HP.out.1] at h
    omega) W hf h)
  rw [evalL_scaleL, gm_comm] at HE5
  have HE6 := Lib.hid (fun A c m hm W hf h => peval_any fb A m c (shiftL p n) x hm (by
    have h : (shiftL p n).length ≤ n + p.length := by
      unfold shiftL
      rw [trimL_len]
      exact Nat.le_trans (tlL_le _) (by simp)
    rw [hm, HP.out.1] at h
    omega) W hf h)
  rw [evalL_shiftL] at HE6
  have HA := Lib.hid (fun W h => refAtN_any A3 n3 c3 (modL p [x, 1] t) HL3.out.1 0 W h)
  rw [HEM.out, show ((0 : Nat) : Int) = 0 from rfl] at HA
  obtain ⟨v, hv⟩ : ∃ v, evalL p x = v := ⟨_, rfl⟩
  obtain ⟨u, hu⟩ : ∃ u, evalL q x = u := ⟨_, rfl⟩
  rw [hv]
  rw [hv] at HE4 HX2 HX3 HE5 HE6 HA
  rw [hu] at HE4 HQ
  have hxor := u8_xorP v u
  obtain ⟨s, hs⟩ : ∃ s, v ^^^ u = s := ⟨_, rfl⟩
  rw [hs] at hxor HE4
  obtain ⟨g, hg⟩ : ∃ g, gm v a = g := ⟨_, rfl⟩
  rw [hg] at HE5 HX2
  obtain ⟨y, hy⟩ : ∃ y, pw x n = y := ⟨_, rfl⟩
  rw [hy] at HX3 HE6 HPW
  obtain ⟨z, hz⟩ : ∃ z, gm v y = z := ⟨_, rfl⟩
  rw [hz] at HX3 HE6
  have j3 : (n3 : Int) ≤ 1 := by omega
  clear hv hu hs hg hy hz h3 h4 HM1
  go_wp2_with fail
  refine (HE4.out _ PW.out.f (PW.out.at 4 rfl)).mono ?_
  rintro e W5 ⟨rfl, hb⟩
  have PW2 := Lib.hid (PW.out.step hb)
  clear PW hb
  have PW := PW2
  clear PW2
  go_wp2_with fail
  refine (HQ.out _ (PW.out.at 1 rfl)).mono ?_
  rintro e W6 ⟨rfl, qd, hq⟩
  have PW2 := Lib.hid (PW.out.drew hq)
  clear PW hq
  have PW := PW2
  clear PW2
  go_wp2_with fail
  refine (scale_any fb A0 n0 c0 p a HP.out.1 (by omega) _ PW.out.f (PW.out.at 0 rfl)).mono ?_
  rintro e W7 ⟨v7, rfl, hv, hb⟩
  obtain ⟨A7, c7, rfl, hc, _, hr⟩ := hv.open
  have PW2 := Lib.hid (PW.out.add hb hr)
  obtain ⟨n7, hnn⟩ : ∃ nlen, (scaleL p a).length = nlen := ⟨_, rfl⟩
  rw [hnn] at hc ⊢
  have HL7 := Lib.hid (And.intro hnn hc)
  clear PW hv hb hr hc hnn
  have PW := PW2
  clear PW2
  go_wp2_with fail
  refine (HE5.out _ _ _ HL7.out.1 _ PW.out.f (PW.out.at 5 rfl)).mono ?_
  rintro e W8 ⟨rfl, hb⟩
  have PW2 := Lib.hid (PW.out.step hb)
  clear PW hb
  have PW := PW2
  clear PW2
  go_wp2_with fail
  refine (HX2.out _).mono ?_
  rintro e W9 ⟨rfl, hq⟩
  subst hq
  go_wp2_with fail
  refine (HSH.out _ (PW.out.at 0 rfl)).mono ?_
  rintro e W10 ⟨v10, rfl, hv, hb⟩
  obtain ⟨A10, c10, rfl, hc, _, hr⟩ := hv.open
  have PW2 := Lib.hid (PW.out.add hb hr)
  obtain ⟨n10, hnn⟩ : ∃ nlen, (shiftL p n).length = nlen := ⟨_, rfl⟩
  rw [hnn] at hc ⊢
  have HL10 := Lib.hid (And.intro hnn hc)
  clear PW hv hb hr hc hnn
  have PW := PW2
  clear PW2
  go_wp2_with fail
  refine (HE6.out _ _ _ HL10.out.1 _ PW.out.f (PW.out.at 6 rfl)).mono ?_
  rintro e W11 ⟨rfl, hb⟩
  have PW2 := Lib.hid (PW.out.step hb)
  clear PW hb
  have PW := PW2
  clear PW2
  go_wp2_with fail
  refine (HPW.out _).mono ?_
  rintro e W12 ⟨rfl, hq⟩
  subst hq
  go_wp2_with fail
  refine (HX3.out _).mono ?_
  rintro e W13 ⟨rfl, hq⟩
  subst hq
  go_wp2_with fail
  refine (HA.out _ (PW.out.at 3 rfl)).mono ?_
  rintro e W14 ⟨rfl, hq⟩
  subst hq
  go_wp2
  go_ret
  exact ⟨rfl, PW.out.bw⟩
end Go.Proofs.Yticbbkaelfbaiaa
