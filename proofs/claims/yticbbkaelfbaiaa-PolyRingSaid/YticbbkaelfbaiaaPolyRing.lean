/- PolyRing, walked: for every three polynomials the law returns true. -/
import Derived.Test.YticbbkaelfbaiaaPolyK
namespace Go.Proofs.Yticbbkaelfbaiaa
open Go.RowKit Go.Shelf
set_option linter.unusedVariables false

theorem mulL_ln (p q : List UInt8) : (mulL p q).length ≤ p.length + q.length := by
  rw [mulL_len, tlL_mulL]
  have := tlL_le p
  have := tlL_le q
  split <;> omega
theorem addL_ln (p q : List UInt8) : (addL p q).length ≤ max p.length q.length := by
  unfold addL
  rw [trimL_len]
  exact Nat.le_trans (tlL_le _) (by rw [ofF_len]; exact Nat.le_refl _)
theorem ring1 (p q r : List UInt8) (j : Nat) : co (mulL (addL p q) r) j = co (addL (mulL p r) (mulL q r)) j := by
  rw [co_mulL, co_addL, co_mulL, co_mulL, ← conv_xor]
  exact conv_congr (fun i _ => co_addL p q i) (fun _ _ => rfl)
theorem ring2 (p q r : List UInt8) (j : Nat) : co (mulL (mulL p q) r) j = co (mulL p (mulL q r)) j := by
  rw [co_mulL, co_mulL, conv_congr (f' := conv (co p) (co q)) (fun i _ => co_mulL p q i) (fun _ _ => rfl), conv_assoc]
  exact conv_congr (fun _ _ => rfl) (fun i _ => (co_mulL q r i).symm)
theorem addL_self (p : List UInt8) : (addL p p).length = 0 := by
  have h : tlL (ofF (max p.length p.length) fun i => co p i ^^^ co p i) = 0 := tlL_of (fun i _ => by
    rw [co_ofF]; split
    · exact UInt8.xor_self
    · rfl) (.inl rfl)
  unfold addL
  rw [trimL_len, h]
set_option maxRecDepth 100000 in
set_option maxHeartbeats 1000000 in
theorem PolyRing_walk (A0 : Option Addr) (n0 c0 : Nat) (z0 : List Int) (A1 : Option Addr) (n1 c1 : Nat) (z1 : List Int) (A2 : Option Addr) (n2 c2 : Nat) (z2 : List Int) (w : World) (r0 : IsRow .u8 w A0 n0 c0 z0) (r1 : IsRow .u8 w A1 n1 c1 z1) (r2 : IsRow .u8 w A2 n2 c2 z2) :
    Calls Try.prog 4 #[.slice A0 n0 c0, .slice A1 n1 c1, .slice A2 n2 c2] w fun e w' => e = .returned (.bool true) ∧ Below w.heap.size w w' := by
  obtain ⟨p, hp0, hp1, hp2, hp3⟩ := r0.bytes
  obtain ⟨q, hq0, hq1, hq2, hq3⟩ := r1.bytes
  obtain ⟨r, hr0, hr1, hr2, hr3⟩ := r2.bytes
  have HP := Lib.hid (And.intro hp0 (And.intro hq0 hr0))
  have HC := Lib.hid (And.intro hp1 (And.intro hq1 hr1))
  have HR := Lib.hid (show ∀ x ∈ [(A0, p), (A1, q), (A2, r)], RdB w x.1 x.2 by
    intro x hx
    simp only [List.mem_cons, List.not_mem_nil, or_false] at hx
    rcases hx with rfl | rfl | rfl
    · exact hp3
    · exact hq3
    · exact hr3)
  clear r0 r1 r2 hp0 hp1 hp2 hp3 hq0 hq1 hq2 hq3 hr0 hr1 hr2 hr3
  by_cases hb0 : 40 < n0
  · have i1 : (40 : Int) < (n0 : Int) := by omega
    go_enter Try.func4, Try.ntmps4
    go_wp2_with fail
    refine (new_any w).mono ?_
    rintro e W0 ⟨rfl, hw⟩
    have PW := Lib.hid (PWs.start hw ([(A0, p), (A1, q), (A2, r)]) (HR.out))
    clear hw
    obtain ⟨fb, hfb⟩ : ∃ fb, w.heap.size = fb := ⟨_, rfl⟩
    rw [hfb] at PW ⊢
    go_wp2_with fail
    refine (anchor2_any fb W0 PW.out.f).mono ?_
    rintro e W00 ⟨rfl, hb⟩
    have PW2 := Lib.hid (PW.out.step hb)
    clear PW hb hfb
    have PW := PW2
    clear PW2
    go_wp2
    go_ret
    exact ⟨rfl, PW.out.bw⟩
  have i1 : (n0 : Int) ≤ 40 := by omega
  by_cases hb1 : 40 < n1
  · have i2 : (40 : Int) < (n1 : Int) := by omega
    go_enter Try.func4, Try.ntmps4
    go_wp2_with fail
    refine (new_any w).mono ?_
    rintro e W0 ⟨rfl, hw⟩
    have PW := Lib.hid (PWs.start hw ([(A0, p), (A1, q), (A2, r)]) (HR.out))
    clear hw
    obtain ⟨fb, hfb⟩ : ∃ fb, w.heap.size = fb := ⟨_, rfl⟩
    rw [hfb] at PW ⊢
    go_wp2_with fail
    refine (anchor2_any fb W0 PW.out.f).mono ?_
    rintro e W00 ⟨rfl, hb⟩
    have PW2 := Lib.hid (PW.out.step hb)
    clear PW hb hfb
    have PW := PW2
    clear PW2
    go_wp2
    go_ret
    exact ⟨rfl, PW.out.bw⟩
  have i2 : (n1 : Int) ≤ 40 := by omega
  by_cases hb2 : 40 < n2
  · have i3 : (40 : Int) < (n2 : Int) := by omega
    go_enter Try.func4, Try.ntmps4
    go_wp2_with fail
    refine (new_any w).mono ?_
    rintro e W0 ⟨rfl, hw⟩
    have PW := Lib.hid (PWs.start hw ([(A0, p), (A1, q), (A2, r)]) (HR.out))
    clear hw
    obtain ⟨fb, hfb⟩ : ∃ fb, w.heap.size = fb := ⟨_, rfl⟩
    rw [hfb] at PW ⊢
    go_wp2_with fail
    refine (anchor2_any fb W0 PW.out.f).mono ?_
    rintro e W00 ⟨rfl, hb⟩
    have PW2 := Lib.hid (PW.out.step hb)
    clear PW hb hfb
    have PW := PW2
    clear PW2
    go_wp2
    go_ret
    exact ⟨rfl, PW.out.bw⟩
  have i3 : (n2 : Int) ≤ 40 := by omega
  go_enter Try.func4, Try.ntmps4
  go_wp2_with fail
  refine (new_any w).mono ?_
  rintro e W0 ⟨rfl, hw⟩
  have PW := Lib.hid (PWs.start hw ([(A0, p), (A1, q), (A2, r)]) (HR.out))
  clear hw
  obtain ⟨fb, hfb⟩ : ∃ fb, w.heap.size = fb := ⟨_, rfl⟩
  rw [hfb] at PW ⊢
  go_wp2_with fail
  refine (anchor2_any fb W0 PW.out.f).mono ?_
  rintro e W00 ⟨rfl, hb⟩
  have PW2 := Lib.hid (PW.out.step hb)
  clear PW hb hfb
  have PW := PW2
  clear PW2
  go_wp2_with fail
  refine (pmul_any fb A0 A1 n0 n1 c0 c1 (p) (q) (HP.out.1) (HP.out.2.1) (HC.out.1) (HC.out.2.1) (by omega) (by omega) _ PW.out.f (PW.out.at 0 rfl) (PW.out.at 1 rfl)).mono ?_
  rintro e W3 ⟨v3, rfl, hv, hb⟩
  obtain ⟨A3, c3, rfl, hc, _, hr⟩ := hv.open
  have PW2 := Lib.hid (PW.out.add hb hr)
  obtain ⟨n3, hnn⟩ : ∃ nlen, (mulL p q).length = nlen := ⟨_, rfl⟩
  rw [hnn] at hc ⊢
  have HL3 := Lib.hid (And.intro hnn hc)
  clear PW hv hb hr hc hnn
  have PW := PW2
  clear PW2
  have hl3 : n3 ≤ n0 + n1 := by
    have := mulL_ln p q
    rw [HL3.out.1, HP.out.1, HP.out.2.1] at this
    omega
  go_wp2_with fail
  refine (add_any A0 A1 n0 n1 c0 c1 (p) (q) (HP.out.1) (HP.out.2.1) (by omega) (by omega) _ (PW.out.at 0 rfl) (PW.out.at 1 rfl)).mono ?_
  rintro e W4 ⟨v4, rfl, hv, hb⟩
  obtain ⟨A4, c4, rfl, hc, _, hr⟩ := hv.open
  have PW2 := Lib.hid (PW.out.add hb hr)
  obtain ⟨n4, hnn⟩ : ∃ nlen, (addL p q).length = nlen := ⟨_, rfl⟩
  rw [hnn] at hc ⊢
  have HL4 := Lib.hid (And.intro hnn hc)
  clear PW hv hb hr hc hnn
  have PW := PW2
  clear PW2
  have hl4 : n4 ≤ n0 + n1 := by
    have := addL_ln p q
    rw [HL4.out.1, HP.out.1, HP.out.2.1] at this
    omega
  go_wp2_with fail
  refine (pmul_any fb A4 A2 n4 n2 c4 c2 ((addL p q)) (r) (HL4.out.1) (HP.out.2.2) (HL4.out.2) (HC.out.2.2) (by omega) (by omega) _ PW.out.f (PW.out.at 4 rfl) (PW.out.at 2 rfl)).mono ?_
  rintro e W5 ⟨v5, rfl, hv, hb⟩
  obtain ⟨A5, c5, rfl, hc, _, hr⟩ := hv.open
  have PW2 := Lib.hid (PW.out.add hb hr)
  obtain ⟨n5, hnn⟩ : ∃ nlen, (mulL (addL p q) r).length = nlen := ⟨_, rfl⟩
  rw [hnn] at hc ⊢
  have HL5 := Lib.hid (And.intro hnn hc)
  clear PW hv hb hr hc hnn
  have PW := PW2
  clear PW2
  have hl5 : n5 ≤ n4 + n2 := by
    have := mulL_ln (addL p q) r
    rw [HL5.out.1, HL4.out.1, HP.out.2.2] at this
    omega
  go_wp2_with fail
  refine (pmul_any fb A0 A2 n0 n2 c0 c2 (p) (r) (HP.out.1) (HP.out.2.2) (HC.out.1) (HC.out.2.2) (by omega) (by omega) _ PW.out.f (PW.out.at 0 rfl) (PW.out.at 2 rfl)).mono ?_
  rintro e W6 ⟨v6, rfl, hv, hb⟩
  obtain ⟨A6, c6, rfl, hc, _, hr⟩ := hv.open
  have PW2 := Lib.hid (PW.out.add hb hr)
  obtain ⟨n6, hnn⟩ : ∃ nlen, (mulL p r).length = nlen := ⟨_, rfl⟩
  rw [hnn] at hc ⊢
  have HL6 := Lib.hid (And.intro hnn hc)
  clear PW hv hb hr hc hnn
  have PW := PW2
  clear PW2
  have hl6 : n6 ≤ n0 + n2 := by
    have := mulL_ln p r
    rw [HL6.out.1, HP.out.1, HP.out.2.2] at this
    omega
  go_wp2_with fail
  refine (pmul_any fb A1 A2 n1 n2 c1 c2 (q) (r) (HP.out.2.1) (HP.out.2.2) (HC.out.2.1) (HC.out.2.2) (by omega) (by omega) _ PW.out.f (PW.out.at 1 rfl) (PW.out.at 2 rfl)).mono ?_
  rintro e W7 ⟨v7, rfl, hv, hb⟩
  obtain ⟨A7, c7, rfl, hc, _, hr⟩ := hv.open
  have PW2 := Lib.hid (PW.out.add hb hr)
  obtain ⟨n7, hnn⟩ : ∃ nlen, (mulL q r).length = nlen := ⟨_, rfl⟩
  rw [hnn] at hc ⊢
  have HL7 := Lib.hid (And.intro hnn hc)
  clear PW hv hb hr hc hnn
  have PW := PW2
  clear PW2
  have hl7 : n7 ≤ n1 + n2 := by
    have := mulL_ln q r
    rw [HL7.out.1, HP.out.2.1, HP.out.2.2] at this
    omega
  go_wp2_with fail
  refine (add_any A6 A7 n6 n7 c6 c7 ((mulL p r)) ((mulL q r)) (HL6.out.1) (HL7.out.1) (by omega) (by omega) _ (PW.out.at 6 rfl) (PW.out.at 7 rfl)).mono ?_
  rintro e W8 ⟨v8, rfl, hv, hb⟩
  obtain ⟨A8, c8, rfl, hc, _, hr⟩ := hv.open
  have PW2 := Lib.hid (PW.out.add hb hr)
  obtain ⟨n8, hnn⟩ : ∃ nlen, (addL (mulL p r) (mulL q r)).length = nlen := ⟨_, rfl⟩
  rw [hnn] at hc ⊢
  have HL8 := Lib.hid (And.intro hnn hc)
  clear PW hv hb hr hc hnn
  have PW := PW2
  clear PW2
  have hl8 : n8 ≤ n6 + n7 := by
    have := addL_ln (mulL p r) (mulL q r)
    rw [HL8.out.1, HL6.out.1, HL7.out.1] at this
    omega
  have HS1 := Lib.hid (fun W h1 h2 => refSame_any A5 A8 n5 n8 c5 c8 (mulL (addL p q) r) (addL (mulL p r) (mulL q r)) HL5.out.1 HL8.out.1 (by unfold maxLen; omega) (by unfold maxLen; omega) W h1 h2)
  rw [sameB_true (ring1 p q r)] at HS1
  go_wp2_with fail
  refine (HS1.out _ (PW.out.at 5 rfl) (PW.out.at 8 rfl)).mono ?_
  rintro e W20 ⟨rfl, hq⟩
  subst hq
  go_wp2_with fail
  refine (pmul_any fb A1 A0 n1 n0 c1 c0 (q) (p) (HP.out.2.1) (HP.out.1) (HC.out.2.1) (HC.out.1) (by omega) (by omega) _ PW.out.f (PW.out.at 1 rfl) (PW.out.at 0 rfl)).mono ?_
  rintro e W9 ⟨v9, rfl, hv, hb⟩
  obtain ⟨A9, c9, rfl, hc, _, hr⟩ := hv.open
  have PW2 := Lib.hid (PW.out.add hb hr)
  obtain ⟨n9, hnn⟩ : ∃ nlen, (mulL q p).length = nlen := ⟨_, rfl⟩
  rw [hnn] at hc ⊢
  have HL9 := Lib.hid (And.intro hnn hc)
  clear PW hv hb hr hc hnn
  have PW := PW2
  clear PW2
  have hl9 : n9 ≤ n1 + n0 := by
    have := mulL_ln q p
    rw [HL9.out.1, HP.out.2.1, HP.out.1] at this
    omega
  have HS2 := Lib.hid (fun W h1 h2 => refSame_any A3 A9 n3 n9 c3 c9 (mulL p q) (mulL q p) HL3.out.1 HL9.out.1 (by unfold maxLen; omega) (by unfold maxLen; omega) W h1 h2)
  rw [sameB_true (fun i => by rw [mulL_comm])] at HS2
  go_wp2_with fail
  refine (HS2.out _ (PW.out.at 3 rfl) (PW.out.at 9 rfl)).mono ?_
  rintro e W21 ⟨rfl, hq⟩
  subst hq
  go_wp2_with fail
  refine (pmul_any fb A3 A2 n3 n2 c3 c2 ((mulL p q)) (r) (HL3.out.1) (HP.out.2.2) (HL3.out.2) (HC.out.2.2) (by omega) (by omega) _ PW.out.f (PW.out.at 3 rfl) (PW.out.at 2 rfl)).mono ?_
  rintro e W10 ⟨v10, rfl, hv, hb⟩
  obtain ⟨A10, c10, rfl, hc, _, hr⟩ := hv.open
  have PW2 := Lib.hid (PW.out.add hb hr)
  obtain ⟨n10, hnn⟩ : ∃ nlen, (mulL (mulL p q) r).length = nlen := ⟨_, rfl⟩
  rw [hnn] at hc ⊢
  have HL10 := Lib.hid (And.intro hnn hc)
  clear PW hv hb hr hc hnn
  have PW := PW2
  clear PW2
  have hl10 : n10 ≤ n3 + n2 := by
    have := mulL_ln (mulL p q) r
    rw [HL10.out.1, HL3.out.1, HP.out.2.2] at this
    omega
  go_wp2_with fail
  refine (pmul_any fb A1 A2 n1 n2 c1 c2 (q) (r) (HP.out.2.1) (HP.out.2.2) (HC.out.2.1) (HC.out.2.2) (by omega) (by omega) _ PW.out.f (PW.out.at 1 rfl) (PW.out.at 2 rfl)).mono ?_
  rintro e W11 ⟨v11, rfl, hv, hb⟩
  obtain ⟨A11, c11, rfl, hc, _, hr⟩ := hv.open
  have PW2 := Lib.hid (PW.out.add hb hr)
  obtain ⟨n11, hnn⟩ : ∃ nlen, (mulL q r).length = nlen := ⟨_, rfl⟩
  rw [hnn] at hc ⊢
  have HL11 := Lib.hid (And.intro hnn hc)
  clear PW hv hb hr hc hnn
  have PW := PW2
  clear PW2
  have hl11 : n11 ≤ n1 + n2 := by
    have := mulL_ln q r
    rw [HL11.out.1, HP.out.2.1, HP.out.2.2] at this
    omega
  go_wp2_with fail
  refine (pmul_any fb A0 A11 n0 n11 c0 c11 (p) ((mulL q r)) (HP.out.1) (HL11.out.1) (HC.out.1) (HL11.out.2) (by omega) (by omega) _ PW.out.f (PW.out.at 0 rfl) (PW.out.at 11 rfl)).mono ?_
  rintro e W12 ⟨v12, rfl, hv, hb⟩
  obtain ⟨A12, c12, rfl, hc, _, hr⟩ := hv.open
  have PW2 := Lib.hid (PW.out.add hb hr)
  obtain ⟨n12, hnn⟩ : ∃ nlen, (mulL p (mulL q r)).length = nlen := ⟨_, rfl⟩
  rw [hnn] at hc ⊢
  have HL12 := Lib.hid (And.intro hnn hc)
  clear PW hv hb hr hc hnn
  have PW := PW2
  clear PW2
  have hl12 : n12 ≤ n0 + n11 := by
    have := mulL_ln p (mulL q r)
    rw [HL12.out.1, HP.out.1, HL11.out.1] at this
    omega
  have HS3 := Lib.hid (fun W h1 h2 => refSame_any A10 A12 n10 n12 c10 c12 (mulL (mulL p q) r) (mulL p (mulL q r)) HL10.out.1 HL12.out.1 (by unfold maxLen; omega) (by unfold maxLen; omega) W h1 h2)
  rw [sameB_true (ring2 p q r)] at HS3
  go_wp2_with fail
  refine (HS3.out _ (PW.out.at 10 rfl) (PW.out.at 12 rfl)).mono ?_
  rintro e W22 ⟨rfl, hq⟩
  subst hq
  have HDP := Lib.hid (fun W h => refDegree_any A0 n0 c0 p HP.out.1 (by unfold maxLen; omega) W h)
  have HDQ := Lib.hid (fun W h => refDegree_any A1 n1 c1 q HP.out.2.1 (by unfold maxLen; omega) W h)
  have HDM := Lib.hid (fun W h => refDegree_any A3 n3 c3 (mulL p q) HL3.out.1 (by unfold maxLen; omega) W h)
  have hlp := tlL_le p
  have hlq := tlL_le q
  rw [HP.out.1] at hlp
  rw [HP.out.2.1] at hlq
  rw [tlL_mulL] at HDM
  obtain ⟨s, hs⟩ : ∃ s, tlL p = s := ⟨_, rfl⟩
  obtain ⟨t, ht⟩ : ∃ t, tlL q = t := ⟨_, rfl⟩
  rw [hs] at HDP HDM hlp
  rw [ht] at HDQ HDM hlq
  clear hs ht HS1 HS2 HS3 hl3 hl4 hl5 hl6 hl7 hl8 hl9 hl10 hl11 hl12
  by_cases h0 : s = 0
  · subst h0
    rw [if_pos (.inl rfl)] at HDM
    rw [show ((0 : Nat) : Int) - 1 = -1 from rfl] at HDP HDM
    obtain ⟨v, hv⟩ : ∃ v : Int, (t : Int) - 1 = v := ⟨_, rfl⟩
    rw [hv] at HDQ
    have hwv : IntKind.i64.wrap (-1 + v) = -1 + v := IntWalk.i64_in _ (by omega)
    clear hv hlp hlq
    have HE := Lib.hid (fun W h => add_any A0 A0 n0 n0 c0 c0 p p HP.out.1 HP.out.1 (by omega) (by omega) W h h)
    go_wp2_with fail
    refine (HDP.out _ (PW.out.at 0 rfl)).mono ?_
    rintro e W40 ⟨rfl, hq⟩
    subst hq
    go_wp2_with fail
    refine (HDQ.out _ (PW.out.at 1 rfl)).mono ?_
    rintro e W41 ⟨rfl, hq⟩
    subst hq
    go_wp2_with fail
    refine (HDP.out _ (PW.out.at 0 rfl)).mono ?_
    rintro e W42 ⟨rfl, hq⟩
    subst hq
    go_wp2_with fail
    skip
    go_wp2_with fail
    refine (HDM.out _ (PW.out.at 3 rfl)).mono ?_
    rintro e W44 ⟨rfl, hq⟩
    subst hq
    go_wp2_with fail
    refine (HE.out _ (PW.out.at 0 rfl)).mono ?_
    rintro e W45 ⟨v45, rfl, hv, hb⟩
    obtain ⟨A45, c45, rfl, hc, _, hr⟩ := hv.open
    have PW2 := Lib.hid (PW.out.add hb hr)
    obtain ⟨n45, hnn⟩ : ∃ nlen, (addL p p).length = nlen := ⟨_, rfl⟩
    rw [hnn] at hc ⊢
    have HL45 := Lib.hid (And.intro hnn hc)
    clear PW hv hb hr hc hnn
    have PW := PW2
    clear PW2
    have h45 := addL_self p
    rw [HL45.out.1] at h45
    subst h45
    go_wp2
    go_ret
    exact ⟨rfl, PW.out.bw⟩
  by_cases h1 : t = 0
  · subst h1
    rw [if_pos (.inr rfl)] at HDM
    rw [show ((0 : Nat) : Int) - 1 = -1 from rfl] at HDQ HDM
    obtain ⟨v, hv⟩ : ∃ v : Int, (s : Int) - 1 = v := ⟨_, rfl⟩
    rw [hv] at HDP
    have hwv : IntKind.i64.wrap (v + -1) = v + -1 := IntWalk.i64_in _ (by omega)
    have hwv2 : IntKind.i64.wrap (v - 1) = v - 1 := IntWalk.i64_in _ (by omega)
    have j0 : (0 : Int) ≤ v := by omega
    clear hv hlp hlq h0
    have HE := Lib.hid (fun W h => add_any A0 A0 n0 n0 c0 c0 p p HP.out.1 HP.out.1 (by omega) (by omega) W h h)
    go_wp2_with fail
    refine (HDP.out _ (PW.out.at 0 rfl)).mono ?_
    rintro e W40 ⟨rfl, hq⟩
    subst hq
    go_wp2_with fail
    refine (HDQ.out _ (PW.out.at 1 rfl)).mono ?_
    rintro e W41 ⟨rfl, hq⟩
    subst hq
    go_wp2_with fail
    refine (HDP.out _ (PW.out.at 0 rfl)).mono ?_
    rintro e W42 ⟨rfl, hq⟩
    subst hq
    go_wp2_with fail
    (refine (HDQ.out _ (PW.out.at 1 rfl)).mono ?_; rintro e W43 ⟨rfl, hq⟩; subst hq)
    go_wp2_with fail
    refine (HDM.out _ (PW.out.at 3 rfl)).mono ?_
    rintro e W44 ⟨rfl, hq⟩
    subst hq
    go_wp2_with fail
    refine (HE.out _ (PW.out.at 0 rfl)).mono ?_
    rintro e W45 ⟨v45, rfl, hv, hb⟩
    obtain ⟨A45, c45, rfl, hc, _, hr⟩ := hv.open
    have PW2 := Lib.hid (PW.out.add hb hr)
    obtain ⟨n45, hnn⟩ : ∃ nlen, (addL p p).length = nlen := ⟨_, rfl⟩
    rw [hnn] at hc ⊢
    have HL45 := Lib.hid (And.intro hnn hc)
    clear PW hv hb hr hc hnn
    have PW := PW2
    clear PW2
    have h45 := addL_self p
    rw [HL45.out.1] at h45
    subst h45
    go_wp2
    go_ret
    exact ⟨rfl, PW.out.bw⟩
  · rw [if_neg (by omega)] at HDM
    obtain ⟨v, hv⟩ : ∃ v : Int, (s : Int) - 1 = v := ⟨_, rfl⟩
    obtain ⟨u, hu⟩ : ∃ u : Int, (t : Int) - 1 = u := ⟨_, rfl⟩
    rw [show ((s + t - 1 : Nat) : Int) - 1 = v + u from by omega] at HDM
    rw [hv] at HDP
    rw [hu] at HDQ
    have hwv : IntKind.i64.wrap (v + u) = v + u := IntWalk.i64_in _ (by omega)
    have j0 : (0 : Int) ≤ v := by omega
    have j1 : (0 : Int) ≤ u := by omega
    clear hv hu hlp hlq h0 h1
    have HE := Lib.hid (fun W h => add_any A0 A0 n0 n0 c0 c0 p p HP.out.1 HP.out.1 (by omega) (by omega) W h h)
    go_wp2_with fail
    refine (HDP.out _ (PW.out.at 0 rfl)).mono ?_
    rintro e W40 ⟨rfl, hq⟩
    subst hq
    go_wp2_with fail
    refine (HDQ.out _ (PW.out.at 1 rfl)).mono ?_
    rintro e W41 ⟨rfl, hq⟩
    subst hq
    go_wp2_with fail
    refine (HDP.out _ (PW.out.at 0 rfl)).mono ?_
    rintro e W42 ⟨rfl, hq⟩
    subst hq
    go_wp2_with fail
    (refine (HDQ.out _ (PW.out.at 1 rfl)).mono ?_; rintro e W43 ⟨rfl, hq⟩; subst hq)
    go_wp2_with fail
    refine (HDM.out _ (PW.out.at 3 rfl)).mono ?_
    rintro e W44 ⟨rfl, hq⟩
    subst hq
    go_wp2_with fail
    refine (HE.out _ (PW.out.at 0 rfl)).mono ?_
    rintro e W45 ⟨v45, rfl, hv, hb⟩
    obtain ⟨A45, c45, rfl, hc, _, hr⟩ := hv.open
    have PW2 := Lib.hid (PW.out.add hb hr)
    obtain ⟨n45, hnn⟩ : ∃ nlen, (addL p p).length = nlen := ⟨_, rfl⟩
    rw [hnn] at hc ⊢
    have HL45 := Lib.hid (And.intro hnn hc)
    clear PW hv hb hr hc hnn
    have PW := PW2
    clear PW2
    have h45 := addL_self p
    rw [HL45.out.1] at h45
    subst h45
    go_wp2
    go_ret
    exact ⟨rfl, PW.out.bw⟩
end Go.Proofs.Yticbbkaelfbaiaa
