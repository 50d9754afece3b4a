/- PolyMods, walked: for every three polynomials the law returns true. -/
import Derived.Test.YticbbkaelfbaiaaPolyK
import Derived.Test.YticbbkaelfbaiaaPolyL3
namespace Go.Proofs.Yticbbkaelfbaiaa
open Go.RowKit Go.Shelf
set_option linter.unusedVariables false

theorem mulL_len_le' (p q : List UInt8) : (mulL p q).length ≤ p.length + q.length := by
  rw [mulL_len, tlL_mulL]
  have := tlL_le p
  have := tlL_le q
  split <;> omega
theorem addL_len_le (p q : List UInt8) : (addL p q).length ≤ max p.length q.length := by
  unfold addL
  rw [trimL_len]
  exact Nat.le_trans (tlL_le _) (by rw [ofF_len]; exact Nat.le_refl _)
theorem modL_len_le (p q : List UInt8) (t : UInt8) : (modL p q t).length ≤ p.length := by
  unfold modL
  rw [trimL_len]
  exact Nat.le_trans (tlL_le _) (by rw [mdTo_len]; exact Nat.le_refl _)
set_option maxRecDepth 100000 in
set_option maxHeartbeats 1000000 in
theorem PolyMods_walk (A0 : Option Addr) (n0 c0 : Nat) (z0 : List Int) (A1 : Option Addr) (n1 c1 : Nat) (z1 : List Int) (A2 : Option Addr) (n2 c2 : Nat) (z2 : List Int) (w : World) (r0 : IsRow .u8 w A0 n0 c0 z0) (r1 : IsRow .u8 w A1 n1 c1 z1) (r2 : IsRow .u8 w A2 n2 c2 z2) :
    Calls Try.prog 6 #[.slice A0 n0 c0, .slice A1 n1 c1, .slice A2 n2 c2] w fun e w' => e = .returned (.bool true) ∧ Below w.heap.size w w' := by
  obtain ⟨p, hp0, hp1, hp2, hp3⟩ := r0.bytes
  obtain ⟨q, hq0, hq1, hq2, hq3⟩ := r1.bytes
  obtain ⟨r, hr0, hr1, hr2, hr3⟩ := r2.bytes
  have HP := Lib.hid (And.intro hp0 (And.intro hq0 hr0))
  have HC := Lib.hid (And.intro hp1 (And.intro hq1 hr1))
  have HR := Lib.hid (show ∀ x ∈ [(A0, p), (A1, q), (A2, r)], RdB w x.1 x.2 by
    intro x hx
    simp only [List.mem_cons, List.not_mem_nil, or_false] at hx
    rcases hx with rfl | rfl | rfl
    · exact hp3
    · exact hq3
    · exact hr3)
  clear r0 r1 r2 hp0 hp1 hp2 hp3 hq0 hq1 hq2 hq3 hr0 hr1 hr2 hr3
  by_cases hb0 : 60 < n0
  · have i1 : (60 : Int) < (n0 : Int) := by omega
    go_enter Try.func6, Try.ntmps6
    go_wp2_with fail
    refine (new_any w).mono ?_
    rintro e W0 ⟨rfl, hw⟩
    have PW := Lib.hid (PWs.start hw ([(A0, p), (A1, q), (A2, r)]) (HR.out))
    clear hw
    obtain ⟨fb, hfb⟩ : ∃ fb, w.heap.size = fb := ⟨_, rfl⟩
    rw [hfb] at PW ⊢
    go_wp2_with fail
    refine (anchor2_any fb W0 PW.out.f).mono ?_
    rintro e W00 ⟨rfl, hb⟩
    have PW2 := Lib.hid (PW.out.step hb)
    clear PW hb hfb
    have PW := PW2
    clear PW2
    go_wp2
    go_ret
    exact ⟨rfl, PW.out.bw⟩
  have i1 : (n0 : Int) ≤ 60 := by omega
  by_cases hb1 : 60 < n1
  · have i2 : (60 : Int) < (n1 : Int) := by omega
    go_enter Try.func6, Try.ntmps6
    go_wp2_with fail
    refine (new_any w).mono ?_
    rintro e W0 ⟨rfl, hw⟩
    have PW := Lib.hid (PWs.start hw ([(A0, p), (A1, q), (A2, r)]) (HR.out))
    clear hw
    obtain ⟨fb, hfb⟩ : ∃ fb, w.heap.size = fb := ⟨_, rfl⟩
    rw [hfb] at PW ⊢
    go_wp2_with fail
    refine (anchor2_any fb W0 PW.out.f).mono ?_
    rintro e W00 ⟨rfl, hb⟩
    have PW2 := Lib.hid (PW.out.step hb)
    clear PW hb hfb
    have PW := PW2
    clear PW2
    go_wp2
    go_ret
    exact ⟨rfl, PW.out.bw⟩
  have i2 : (n1 : Int) ≤ 60 := by omega
  by_cases hb2 : 60 < n2
  · have i3 : (60 : Int) < (n2 : Int) := by omega
    go_enter Try.func6, Try.ntmps6
    go_wp2_with fail
    refine (new_any w).mono ?_
    rintro e W0 ⟨rfl, hw⟩
    have PW := Lib.hid (PWs.start hw ([(A0, p), (A1, q), (A2, r)]) (HR.out))
    clear hw
    obtain ⟨fb, hfb⟩ : ∃ fb, w.heap.size = fb := ⟨_, rfl⟩
    rw [hfb] at PW ⊢
    go_wp2_with fail
    refine (anchor2_any fb W0 PW.out.f).mono ?_
    rintro e W00 ⟨rfl, hb⟩
    have PW2 := Lib.hid (PW.out.step hb)
    clear PW hb hfb
    have PW := PW2
    clear PW2
    go_wp2
    go_ret
    exact ⟨rfl, PW.out.bw⟩
  have i3 : (n2 : Int) ≤ 60 := by omega
  have HDQ := Lib.hid (fun W h => refDegree_any A1 n1 c1 q HP.out.2.1 (by unfold maxLen; omega) W h)
  by_cases h0 : tlL q = 0
  · rw [h0, show ((0 : Nat) : Int) - 1 = -1 from rfl] at HDQ
    go_enter Try.func6, Try.ntmps6
    go_wp2_with fail
    refine (new_any w).mono ?_
    rintro e W0 ⟨rfl, hw⟩
    have PW := Lib.hid (PWs.start hw ([(A0, p), (A1, q), (A2, r)]) (HR.out))
    clear hw
    obtain ⟨fb, hfb⟩ : ∃ fb, w.heap.size = fb := ⟨_, rfl⟩
    rw [hfb] at PW ⊢
    go_wp2_with fail
    refine (anchor2_any fb W0 PW.out.f).mono ?_
    rintro e W00 ⟨rfl, hb⟩
    have PW2 := Lib.hid (PW.out.step hb)
    clear PW hb hfb
    have PW := PW2
    clear PW2
    go_wp2_with fail
    refine (pmod_zero fb A0 A1 n0 n1 c0 c1 q HP.out.2.1 (by omega) h0 W00 (PW.out.at 1 rfl)).mono ?_
    rintro e W3 ⟨rfl, hb⟩
    have PW2 := Lib.hid (PW.out.step hb)
    clear PW hb
    have PW := PW2
    clear PW2
    go_wp2_with fail
    refine (HDQ.out _ (PW.out.at 1 rfl)).mono ?_
    rintro e W4 ⟨rfl, hq⟩
    subst hq
    go_wp2
    go_ret
    exact ⟨rfl, PW.out.bw⟩
  obtain ⟨d, hd⟩ : ∃ d, tlL q = d + 1 := ⟨tlL q - 1, by omega⟩
  have HQT := Lib.hid (gm_gi (tlL_top q (t := tlL q - 1) (by omega)))
  have HMS := Lib.hid (modL_spec (p := p) (q := q) (t := gi (co q (tlL q - 1))) (by omega) HQT.out)
  obtain ⟨K, hK⟩ : ∃ K, min d n2 = K := ⟨_, rfl⟩
  have HLO := Lib.hid (show ∀ j, tlL q - 1 ≤ j → co (trimL (r.take K)) j = 0 from fun j hj => by
    rw [co_trimL, co_ge]
    rw [List.length_take]
    omega)
  have HUN := Lib.hid (fun j => modL_unique (w := addL (mulL p q) (trimL (r.take K))) (p := p) (q := q) (low := trimL (r.take K)) (t := gi (co q (tlL q - 1))) (by omega) HQT.out (fun j => by rw [co_addL, co_mulL]) HLO.out j)
  have H0 := Lib.hid (show 0 < tlL q by omega)
  have HD := Lib.hid hd
  have hdn := tlL_le q
  rw [hd, HP.out.2.1] at hdn
  rw [hd, show ((d + 1 : Nat) : Int) - 1 = (d : Int) from by omega] at HDQ
  have m1 : min (d : Int) (n2 : Int) = (K : Int) := by omega
  have m2 : (if (n2 : Int) < (d : Int) then (n2 : Int) else (d : Int)) = (K : Int) := by split <;> omega
  have m3 : (if (d : Int) < (n2 : Int) then (d : Int) else (n2 : Int)) = (K : Int) := by split <;> omega
  have hsl := sliceAt_low A2 n2 c2 K (by have := HC.out.2.2; omega)
  have HKN := Lib.hid (show K ≤ n2 ∧ K ≤ d by omega)
  have j0 : (0 : Int) ≤ (d : Int) := by omega
  obtain ⟨t, ht⟩ : ∃ t, gi (co q (tlL q - 1)) = t := ⟨_, rfl⟩
  have HTT := Lib.hid ht
  rw [ht] at HMS HUN
  clear hK h0 hd ht
  go_enter Try.func6, Try.ntmps6
  go_wp2_with fail
  refine (new_any w).mono ?_
  rintro e W0 ⟨rfl, hw⟩
  have PW := Lib.hid (PWs.start hw ([(A0, p), (A1, q), (A2, r)]) (HR.out))
  clear hw
  obtain ⟨fb, hfb⟩ : ∃ fb, w.heap.size = fb := ⟨_, rfl⟩
  rw [hfb] at PW ⊢
  go_wp2_with fail
  refine (anchor2_any fb W0 PW.out.f).mono ?_
  rintro e W00 ⟨rfl, hb⟩
  have PW2 := Lib.hid (PW.out.step hb)
  clear PW hb hfb
  have PW := PW2
  clear PW2
  go_wp2_with fail
  have HM1 := Lib.hid (pmod_any fb A0 A1 n0 n1 c0 c1 p q HP.out.1 HP.out.2.1 (by omega) (by omega) H0.out W00 PW.out.f (PW.out.at 0 rfl) (PW.out.at 1 rfl))
  rw [HTT.out] at HM1
  refine (HM1.out).mono ?_
  rintro e W3 ⟨v3, rfl, hv, hb⟩
  obtain ⟨A3, c3, rfl, hc, _, hr⟩ := hv.open
  have PW2 := Lib.hid (PW.out.add hb hr)
  obtain ⟨n3, hnn⟩ : ∃ nlen, (modL p q t).length = nlen := ⟨_, rfl⟩
  rw [hnn] at hc ⊢
  have HL3 := Lib.hid (And.intro hnn hc)
  clear PW hv hb hr hc hnn
  have PW := PW2
  clear PW2
  go_wp2_with fail
  refine (HDQ.out _ (PW.out.at 1 rfl)).mono ?_
  rintro e W4 ⟨rfl, hq⟩
  subst hq
  have HDM := Lib.hid (fun W h => refDegree_any A3 n3 c3 (modL p q t) HL3.out.1 (by have := modL_len_le p q t; rw [HL3.out.1, HP.out.1] at this; unfold maxLen; omega) W h)
  have HTM := Lib.hid (fun W h => trimmed_any A3 n3 c3 (modL p q t) HL3.out.1 (by have := modL_len_le p q t; rw [HL3.out.1, HP.out.1] at this; unfold maxLen; omega) W h)
  rw [show decide (tlL (modL p q t) = n3) = true from decide_eq_true ((modL_trimmed p q t).trans HL3.out.1)] at HTM
  have hlt := HMS.out.2
  obtain ⟨u, hu⟩ : ∃ u, (tlL (modL p q t) : Int) - 1 = u := ⟨_, rfl⟩
  have j1 : u < (d : Int) := by rw [HD.out] at hlt; omega
  rw [hu] at HDM
  clear hlt hu
  go_wp2_with fail
  refine (HDM.out _ (PW.out.at 3 rfl)).mono ?_
  rintro e W5 ⟨rfl, hq⟩
  subst hq
  go_wp2_with fail
  refine (HTM.out _ (PW.out.at 3 rfl)).mono ?_
  rintro e W6 ⟨rfl, hq⟩
  subst hq
  go_wp2_with fail
  refine (trim_any A2 K c2 (r.take K) (by rw [List.length_take, HP.out.2.2]; have := HKN.out; omega) (by have := HKN.out; have := HC.out.2.2; omega) (by have := HKN.out; omega) _ ((PW.out.at 2 rfl).take K)).mono ?_
  rintro e W4 ⟨v4, rfl, hv, hb⟩
  obtain ⟨A4, c4, rfl, hc, _, hr⟩ := hv.open
  have PW2 := Lib.hid (PW.out.add hb hr)
  obtain ⟨n4, hnn⟩ : ∃ nlen, (trimL (r.take K)).length = nlen := ⟨_, rfl⟩
  rw [hnn] at hc ⊢
  have HL4 := Lib.hid (And.intro hnn hc)
  clear PW hv hb hr hc hnn
  have PW := PW2
  clear PW2
  go_wp2_with fail
  refine (pmul_any fb A0 A1 n0 n1 c0 c1 p q HP.out.1 HP.out.2.1 HC.out.1 HC.out.2.1 (by omega) (by omega) _ PW.out.f (PW.out.at 0 rfl) (PW.out.at 1 rfl)).mono ?_
  rintro e W5 ⟨v5, rfl, hv, hb⟩
  obtain ⟨A5, c5, rfl, hc, _, hr⟩ := hv.open
  have PW2 := Lib.hid (PW.out.add hb hr)
  obtain ⟨n5, hnn⟩ : ∃ nlen, (mulL p q).length = nlen := ⟨_, rfl⟩
  rw [hnn] at hc ⊢
  have HL5 := Lib.hid (And.intro hnn hc)
  clear PW hv hb hr hc hnn
  have PW := PW2
  clear PW2
  have hl5 : n5 ≤ 120 := by
    have := mulL_len_le' p q
    rw [HL5.out.1, HP.out.1, HP.out.2.1] at this
    omega
  have hl4 : n4 ≤ 60 := by
    have h := tlL_le (r.take K)
    rw [← trimL_len, HL4.out.1, List.length_take] at h
    have := HKN.out
    omega
  go_wp2_with fail
  refine (add_any A5 A4 n5 n4 c5 c4 (mulL p q) (trimL (r.take K)) HL5.out.1 HL4.out.1 (by omega) (by omega) _ (PW.out.at 5 rfl) (PW.out.at 4 rfl)).mono ?_
  rintro e W6 ⟨v6, rfl, hv, hb⟩
  obtain ⟨A6, c6, rfl, hc, _, hr⟩ := hv.open
  have PW2 := Lib.hid (PW.out.add hb hr)
  obtain ⟨n6, hnn⟩ : ∃ nlen, (addL (mulL p q) (trimL (r.take K))).length = nlen := ⟨_, rfl⟩
  rw [hnn] at hc ⊢
  have HL6 := Lib.hid (And.intro hnn hc)
  clear PW hv hb hr hc hnn
  have PW := PW2
  clear PW2
  have hl6 : n6 ≤ 120 := by
    have := addL_len_le (mulL p q) (trimL (r.take K))
    rw [HL6.out.1, HL5.out.1, HL4.out.1] at this
    omega
  go_wp2_with fail
  have HM2 := Lib.hid (pmod_any fb A6 A1 n6 n1 c6 c1 (addL (mulL p q) (trimL (r.take K))) q HL6.out.1 HP.out.2.1 (by omega) (by omega) H0.out W6 PW.out.f (PW.out.at 6 rfl) (PW.out.at 1 rfl))
  rw [HTT.out] at HM2
  refine (HM2.out).mono ?_
  rintro e W7 ⟨v7, rfl, hv, hb⟩
  obtain ⟨A7, c7, rfl, hc, _, hr⟩ := hv.open
  have PW2 := Lib.hid (PW.out.add hb hr)
  obtain ⟨n7, hnn⟩ : ∃ nlen, (modL (addL (mulL p q) (trimL (r.take K))) q t).length = nlen := ⟨_, rfl⟩
  rw [hnn] at hc ⊢
  have HL7 := Lib.hid (And.intro hnn hc)
  clear PW hv hb hr hc hnn
  have PW := PW2
  clear PW2
  have hl7 : n7 ≤ 120 := by
    have := modL_len_le (addL (mulL p q) (trimL (r.take K))) q t
    rw [HL7.out.1, HL6.out.1] at this
    omega
  have HS := Lib.hid (fun W h1 h2 => refSame_any A7 A4 n7 n4 c7 c4 (modL (addL (mulL p q) (trimL (r.take K))) q t) (trimL (r.take K)) HL7.out.1 HL4.out.1 (by unfold maxLen; omega) (by unfold maxLen; omega) W h1 h2)
  rw [sameB_true HUN.out] at HS
  go_wp2_with fail
  refine (HS.out _ (PW.out.at 7 rfl) (PW.out.at 4 rfl)).mono ?_
  rintro e W8 ⟨rfl, hq⟩
  subst hq
  go_wp2
  go_ret
  exact ⟨rfl, PW.out.bw⟩
end Go.Proofs.Yticbbkaelfbaiaa
