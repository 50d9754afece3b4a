/- HsiaoCorrects, walked: for every d, a, i the law returns true. -/
import Derived.Test.YtbhonojfglhbeaaHsL
namespace Go.Proofs.Ytbhonojfglhbeaa
open Go.RowKit

/-- A word that was laid, one stored bit of it turned: the verdict's syndrome is that bit's column. -/
theorem corr_syn (d : Nat) (a : Int) (i : Nat) (hi : i < 72) : chk (tD d i) (low a) 0 ^^^ tK (chk d (low a) 0) i = col i := by
  have h := syn_turn d (chk d (low a) 0) a 0 i (by omega)
  have e3 : tA a i = a := if_neg (by omega)
  have e4 : tP 0 i = 0 := if_neg (by omega)
  rw [e3, e4, show low 0 = 0 from rfl, Nat.xor_self, Nat.zero_xor] at h
  exact h
theorem verdict_col {i : Nat} (hi : i < 72) : verdict (col i) = (1, (i : Int)) := by
  have h1 := at_col (i := i) (by omega)
  have h2 := col_pos (i := i) (by omega)
  unfold verdict
  rw [if_neg (by omega), h1, if_neg (by omega), if_neg (by omega), if_neg (by omega)]
theorem xor_back (d p : Nat) : (d ^^^ p) ^^^ p = d := by rw [Nat.xor_assoc, Nat.xor_self, Nat.xor_zero]
theorem dec_turn (d i : Nat) (_hi : i < 72) : decD (tD d i) (1, (i : Int)) = d := by
  unfold decD tD
  by_cases h : i < 64
  · rw [if_pos ⟨rfl, by show (i : Int) < 64; omega⟩, if_pos h]; exact xor_back _ _
  · rw [if_neg (fun e => h (by have h2 : (i : Int) < 64 := e.2; omega)), if_neg h]

set_option maxRecDepth 100000 in
set_option maxHeartbeats 1000000 in
theorem HsiaoCorrects_walk (a0 a1 a2 : Int) (w : World) (w0 : (Lit.int .u64 a0).wf = true) (_w1 : (Lit.int .i64 a1).wf = true) (_w2 : (Lit.int .i64 a2).wf = true) :
    Calls Try.prog 8 #[.int .u64 a0, .int .i64 a1, .int .i64 a2] w fun e w' => e = .returned (.bool true) ∧ Below w.heap.size w w' := by
  obtain ⟨d, rfl, ld⟩ := lit_u64h w0
  clear w0
  obtain ⟨g, hg⟩ : ∃ g, w.heap.size = g := ⟨_, rfl⟩
  have HN := Lib.hid (new_any w)
  have HGG := Lib.hid hg
  clear hg
  by_cases hin : 0 ≤ a2 ∧ a2 ≤ 71
  · obtain ⟨i, rfl⟩ := Int.eq_ofNat_of_zero_le hin.1
    have hi : i < 72 := by omega
    have i0 : ¬ (71 : Int) < (i : Int) := by omega
    clear hin
    have C1 := fun W h => check_any g d ld a1 0 W h
    rw [show low 0 = 0 from rfl] at C1
    have lP := chk_lt d (low a1) 0
    have C2 := fun W => turned_any d (chk d (low a1) 0) ld lP a1 0 i (by omega) W
    have lD := tD_lt i ld
    have lK := tK_lt i lP
    have C3 := fun W h => decode_any g (tD d i) (tK (chk d (low a1) 0) i) lD lK a1 W h
    have C4 := fun W h => decode_any g d (chk d (low a1) 0) ld lP a1 W h
    rw [corr_syn d a1 i hi, verdict_col hi, dec_turn d i hi] at C3
    rw [Nat.xor_self, show verdict 0 = (0, -1) from rfl, show decD d (0, -1) = d from if_neg (by rintro ⟨h, _⟩; cases h)] at C4
    obtain ⟨P, hP⟩ : ∃ P, chk d (low a1) 0 = P := ⟨_, rfl⟩
    rw [hP] at C1 C2 C3 C4 lP lK
    obtain ⟨D2, hD2⟩ : ∃ D2, tD d i = D2 := ⟨_, rfl⟩
    rw [hD2] at C2 C3 lD
    obtain ⟨K2, hK2⟩ : ∃ K2, tK P i = K2 := ⟨_, rfl⟩
    rw [hK2] at C2 C3 lK
    have H1 := Lib.hid C1
    have H2 := Lib.hid C2
    have H3 := Lib.hid C3
    have H4 := Lib.hid C4
    clear C1 C2 C3 C4 hP hD2 hK2 lP lD lK
    go_enter Try.func8, Try.ntmps8
    go_wp2_with fail
    refine HN.out.mono ?_
    rintro e w1 ⟨rfl, hc, hb⟩
    have Hw1 := Lib.hid (HS.new hc hb)
    clear hc hb
    rw [HGG.out] at Hw1 ⊢
    go_wp2_with fail
    refine (anchor_any g w1 Hw1.out.2).mono ?_
    rintro e w2 ⟨rfl, hb⟩
    have Hw2 := Lib.hid (Hw1.out.step hb)
    clear hb
    go_wp2_with fail
    refine (H1.out w2 Hw2.out.2).mono ?_
    rintro e w3 ⟨rfl, hb⟩
    have Hw3 := Lib.hid (Hw2.out.step hb)
    clear hb
    go_wp2_with fail
    refine (H2.out w3).mono ?_
    rintro e w9 ⟨rfl, rfl⟩
    go_wp2_with fail
    refine (H3.out w3 Hw3.out.2).mono ?_
    rintro e w4 ⟨rfl, hb⟩
    have Hw4 := Lib.hid (Hw3.out.step hb)
    clear hb
    go_wp2_with fail
    refine (H1.out w4 Hw4.out.2).mono ?_
    rintro e w5 ⟨rfl, hb⟩
    have Hw5 := Lib.hid (Hw4.out.step hb)
    clear hb
    go_wp2_with fail
    refine (H4.out w5 Hw5.out.2).mono ?_
    rintro e w6 ⟨rfl, hb⟩
    have Hw6 := Lib.hid (Hw5.out.step hb)
    clear hb
    go_wp2
    go_ret
    exact ⟨rfl, Hw6.out.1⟩
  · by_cases h0 : 0 ≤ a2
    · have h1 : 71 < a2 := by omega
      clear hin
      go_enter Try.func8, Try.ntmps8
      go_wp2_with fail
      refine HN.out.mono ?_
      rintro e w1 ⟨rfl, hc, hb⟩
      have Hw1 := Lib.hid (HS.new hc hb)
      clear hc hb
      rw [HGG.out] at Hw1 ⊢
      go_wp2_with fail
      refine (anchor_any g w1 Hw1.out.2).mono ?_
      rintro e w2 ⟨rfl, hb⟩
      have Hw2 := Lib.hid (Hw1.out.step hb)
      clear hb
      go_wp2
      go_ret
      exact ⟨rfl, Hw2.out.1⟩
    · clear hin
      go_enter Try.func8, Try.ntmps8
      go_wp2_with fail
      refine HN.out.mono ?_
      rintro e w1 ⟨rfl, hc, hb⟩
      have Hw1 := Lib.hid (HS.new hc hb)
      clear hc hb
      rw [HGG.out] at Hw1 ⊢
      go_wp2_with fail
      refine (anchor_any g w1 Hw1.out.2).mono ?_
      rintro e w2 ⟨rfl, hb⟩
      have Hw2 := Lib.hid (Hw1.out.step hb)
      clear hb
      go_wp2
      go_ret
      exact ⟨rfl, Hw2.out.1⟩
end Go.Proofs.Ytbhonojfglhbeaa
