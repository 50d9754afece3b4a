/- HsiaoDetects, walked: for every d, a, p, i, j, l the law returns true. -/
import Derived.Test.YtbhonojfglhbeaaHsL
namespace Go.Proofs.Ytbhonojfglhbeaa
open Go.RowKit

theorem three_clean {i j l : Nat} (hi : i < 74) (hj : j < 74) (hl : l < 74) (h : i ≠ j) : col i ^^^ col j ^^^ col l ≠ 0 := by
  intro e
  have h1 : col i ^^^ col j = col l := by
    have h2 : (col i ^^^ col j ^^^ col l) ^^^ col l = 0 ^^^ col l := by rw [e]
    rwa [Nat.xor_assoc, Nat.xor_self, Nat.xor_zero, Nat.zero_xor] at h2
  have h3 := two_lost hi hj h
  rw [h1] at h3
  have h4 := at_col hl
  have h5 := col_pos hl
  unfold verdict at h3
  rw [if_neg (by omega), h4] at h3
  have : ¬ ((l : Int) = -1) := by omega
  rw [if_neg this] at h3
  split at h3
  · cases h3
  · split at h3 <;> cases h3
theorem verdict_ne {s : Nat} (h : s ≠ 0) : (verdict s).1 ≠ 0 := by
  unfold verdict
  rw [if_neg h]
  split
  · decide
  · split
    · decide
    · split
      · decide
      · exact Nat.one_ne_zero

set_option maxRecDepth 100000 in
set_option maxHeartbeats 4000000 in
theorem HsiaoDetects_walk (a0 a1 a2 a3 a4 a5 : Int) (w : World) (w0 : (Lit.int .u64 a0).wf = true) (_w1 : (Lit.int .i64 a1).wf = true) (_w2 : (Lit.int .i64 a2).wf = true) (_w3 : (Lit.int .i64 a3).wf = true) (_w4 : (Lit.int .i64 a4).wf = true) (_w5 : (Lit.int .i64 a5).wf = true) :
    Calls Try.prog 6 #[.int .u64 a0, .int .i64 a1, .int .i64 a2, .int .i64 a3, .int .i64 a4, .int .i64 a5] w fun e w' => e = .returned (.bool true) ∧ Below w.heap.size w w' := by
  obtain ⟨d, rfl, ld⟩ := lit_u64h w0
  clear w0
  obtain ⟨g, hg⟩ : ∃ g, w.heap.size = g := ⟨_, rfl⟩
  have HN := Lib.hid (new_any w)
  have HGG := Lib.hid hg
  clear hg
  by_cases c1 : 0 ≤ a3
  case neg =>
    go_enter Try.func6, Try.ntmps6
    go_wp2_with fail
    refine HN.out.mono ?_
    rintro e w1 ⟨rfl, hc, hb⟩
    have Hw1 := Lib.hid (HS.new hc hb)
    clear hc hb
    rw [HGG.out] at Hw1 ⊢
    go_wp2_with fail
    refine (anchor_any g w1 Hw1.out.2).mono ?_
    rintro e w2 ⟨rfl, hb⟩
    have Hw2 := Lib.hid (Hw1.out.step hb)
    clear hb
    go_wp2
    go_ret
    exact ⟨rfl, Hw2.out.1⟩
  by_cases c2 : a3 ≤ 73
  case neg =>
    have c2 : 73 < a3 := by omega
    go_enter Try.func6, Try.ntmps6
    go_wp2_with fail
    refine HN.out.mono ?_
    rintro e w1 ⟨rfl, hc, hb⟩
    have Hw1 := Lib.hid (HS.new hc hb)
    clear hc hb
    rw [HGG.out] at Hw1 ⊢
    go_wp2_with fail
    refine (anchor_any g w1 Hw1.out.2).mono ?_
    rintro e w2 ⟨rfl, hb⟩
    have Hw2 := Lib.hid (Hw1.out.step hb)
    clear hb
    go_wp2
    go_ret
    exact ⟨rfl, Hw2.out.1⟩
  by_cases c3 : 0 ≤ a4
  case neg =>
    go_enter Try.func6, Try.ntmps6
    go_wp2_with fail
    refine HN.out.mono ?_
    rintro e w1 ⟨rfl, hc, hb⟩
    have Hw1 := Lib.hid (HS.new hc hb)
    clear hc hb
    rw [HGG.out] at Hw1 ⊢
    go_wp2_with fail
    refine (anchor_any g w1 Hw1.out.2).mono ?_
    rintro e w2 ⟨rfl, hb⟩
    have Hw2 := Lib.hid (Hw1.out.step hb)
    clear hb
    go_wp2
    go_ret
    exact ⟨rfl, Hw2.out.1⟩
  by_cases c4 : a4 ≤ 73
  case neg =>
    have c4 : 73 < a4 := by omega
    go_enter Try.func6, Try.ntmps6
    go_wp2_with fail
    refine HN.out.mono ?_
    rintro e w1 ⟨rfl, hc, hb⟩
    have Hw1 := Lib.hid (HS.new hc hb)
    clear hc hb
    rw [HGG.out] at Hw1 ⊢
    go_wp2_with fail
    refine (anchor_any g w1 Hw1.out.2).mono ?_
    rintro e w2 ⟨rfl, hb⟩
    have Hw2 := Lib.hid (Hw1.out.step hb)
    clear hb
    go_wp2
    go_ret
    exact ⟨rfl, Hw2.out.1⟩
  by_cases c5 : a3 = a4
  · subst c5
    go_enter Try.func6, Try.ntmps6
    go_wp2_with fail
    refine HN.out.mono ?_
    rintro e w1 ⟨rfl, hc, hb⟩
    have Hw1 := Lib.hid (HS.new hc hb)
    clear hc hb
    rw [HGG.out] at Hw1 ⊢
    go_wp2_with fail
    refine (anchor_any g w1 Hw1.out.2).mono ?_
    rintro e w2 ⟨rfl, hb⟩
    have Hw2 := Lib.hid (Hw1.out.step hb)
    clear hb
    go_wp2
    go_ret
    exact ⟨rfl, Hw2.out.1⟩
  · obtain ⟨i, rfl⟩ := Int.eq_ofNat_of_zero_le c1
    obtain ⟨j, rfl⟩ := Int.eq_ofNat_of_zero_le c3
    have hi : i < 74 := by omega
    have hj : j < 74 := by omega
    have hij : i ≠ j := by omega
    have b5 : ((i : Int) == (j : Int)) = false := by rw [beq_eq_false_iff_ne]; omega
    have hand1 := i64_and1I a1
    have hand2 := i64_and1I a2
    have lx := low_lt a1
    have ly := low_lt a2
    obtain ⟨x, hx⟩ : ∃ x, low a1 = x := ⟨_, rfl⟩
    obtain ⟨y, hy⟩ : ∃ y, low a2 = y := ⟨_, rfl⟩
    rw [hx] at hand1 lx
    rw [hy] at hand2 ly
    clear hx hy c1 c2 c3 c4 c5
    have lP := chk_lt d x y
    have M1 := fun W h => check_any g d ld (x : Int) (y : Int) W h
    rw [low_nat lx, low_nat ly] at M1
    have T1 := fun W => turned_any d (chk d x y) ld lP (x : Int) (y : Int) i hi W
    have l1 := tD_lt i ld
    have k1 := tK_lt i lP
    have T2 := fun W => turned_any (tD d i) (tK (chk d x y) i) l1 k1 (tA (x : Int) i) (tP (y : Int) i) j hj W
    have l2 := tD_lt j l1
    have k2 := tK_lt j k1
    have S2 := fun W h => syndrome_any g (tD (tD d i) j) (tK (tK (chk d x y) i) j) l2 k2 (tA (tA (x : Int) i) j) (tP (tP (y : Int) i) j) W h
    have hs2 : chk (tD (tD d i) j) (low (tA (tA (x : Int) i) j)) (low (tP (tP (y : Int) i) j)) ^^^ tK (tK (chk d x y) i) j = col i ^^^ col j := by
      rw [syn_turn _ _ _ _ j hj, syn_turn _ _ _ _ i hi, low_nat lx, low_nat ly, Nat.xor_self, Nat.zero_xor]
    have ls2 : col i ^^^ col j < 256 := Nat.xor_lt_two_pow (n := 8) (col_lt i) (col_lt j)
    have C2 := fun W h => classify_any g (col i ^^^ col j) ls2 W h
    rw [two_lost hi hj hij] at C2
    have T3 := fun l hl W => turned_any (tD (tD d i) j) (tK (tK (chk d x y) i) j) l2 k2 (tA (tA (x : Int) i) j) (tP (tP (y : Int) i) j) l hl W
    have S3 := fun l W h => syndrome_any g (tD (tD (tD d i) j) l) (tK (tK (tK (chk d x y) i) j) l) (tD_lt l l2) (tK_lt l k2) (tA (tA (tA (x : Int) i) j) l) (tP (tP (tP (y : Int) i) j) l) W h
    have hs3 : ∀ l, l < 74 → chk (tD (tD (tD d i) j) l) (low (tA (tA (tA (x : Int) i) j) l)) (low (tP (tP (tP (y : Int) i) j) l)) ^^^ tK (tK (tK (chk d x y) i) j) l = col i ^^^ col j ^^^ col l := by
      intro l hl
      rw [syn_turn _ _ _ _ l hl, hs2]
    rw [hs2] at S2
    obtain ⟨P, hP⟩ : ∃ P, chk d x y = P := ⟨_, rfl⟩
    rw [hP] at M1 T1 T2 T3 S3 hs3
    simp only [hP] at S2
    obtain ⟨S, hS⟩ : ∃ S, col i ^^^ col j = S := ⟨_, rfl⟩
    rw [hS] at S2 C2
    obtain ⟨D1, hD1⟩ : ∃ D, tD d i = D := ⟨_, rfl⟩
    obtain ⟨K1, hK1⟩ : ∃ K, tK P i = K := ⟨_, rfl⟩
    obtain ⟨A1, hA1⟩ : ∃ A, tA (x : Int) i = A := ⟨_, rfl⟩
    obtain ⟨P1, hP1⟩ : ∃ A, tP (y : Int) i = A := ⟨_, rfl⟩
    simp only [hD1, hK1, hA1, hP1] at T1 T2 T3 S2 S3 hs3
    obtain ⟨D2, hD2⟩ : ∃ D, tD D1 j = D := ⟨_, rfl⟩
    obtain ⟨K2, hK2⟩ : ∃ K, tK K1 j = K := ⟨_, rfl⟩
    obtain ⟨A2, hA2⟩ : ∃ A, tA A1 j = A := ⟨_, rfl⟩
    obtain ⟨P2, hP2⟩ : ∃ A, tP P1 j = A := ⟨_, rfl⟩
    simp only [hD2, hK2, hA2, hP2] at T2 T3 S2 S3 hs3
    have HM1 := Lib.hid M1
    have HT1 := Lib.hid T1
    have HT2 := Lib.hid T2
    have HT3 := Lib.hid T3
    have HS2 := Lib.hid S2
    have HS3 := Lib.hid S3
    have HC2 := Lib.hid C2
    have Hs3 := Lib.hid hs3
    clear M1 T1 T2 T3 S2 S3 C2 hs2 hs3 hP hS hD1 hK1 hA1 hP1 hD2 hK2 hA2 hP2 lP l1 k1 l2 k2 ls2
    by_cases c6 : 0 ≤ a5
    case neg =>
      go_enter Try.func6, Try.ntmps6
      go_wp2_with fail
      refine HN.out.mono ?_
      rintro e w1 ⟨rfl, hc, hb⟩
      have Hw1 := Lib.hid (HS.new hc hb)
      clear hc hb
      rw [HGG.out] at Hw1 ⊢
      go_wp2_with fail
      refine (anchor_any g w1 Hw1.out.2).mono ?_
      rintro e w2 ⟨rfl, hb⟩
      have Hw2 := Lib.hid (Hw1.out.step hb)
      clear hb
      go_wp2_with fail
      refine (HM1.out w2 Hw2.out.2).mono ?_
      rintro e w3 ⟨rfl, hb⟩
      have Hw3 := Lib.hid (Hw2.out.step hb)
      clear hb
      go_wp2_with fail
      refine (HT1.out w3).mono ?_
      rintro e v1 ⟨rfl, rfl⟩
      go_wp2_with fail
      refine (HT2.out w3).mono ?_
      rintro e v1 ⟨rfl, rfl⟩
      go_wp2_with fail
      refine (HS2.out w3 Hw3.out.2).mono ?_
      rintro e w4 ⟨rfl, hb⟩
      have Hw4 := Lib.hid (Hw3.out.step hb)
      clear hb
      go_wp2_with fail
      refine (HC2.out w4 Hw4.out.2).mono ?_
      rintro e v1 ⟨rfl, rfl⟩
      go_wp2
      go_ret
      exact ⟨rfl, Hw4.out.1⟩
    by_cases c7 : a5 ≤ 73
    case neg =>
      have c7 : 73 < a5 := by omega
      go_enter Try.func6, Try.ntmps6
      go_wp2_with fail
      refine HN.out.mono ?_
      rintro e w1 ⟨rfl, hc, hb⟩
      have Hw1 := Lib.hid (HS.new hc hb)
      clear hc hb
      rw [HGG.out] at Hw1 ⊢
      go_wp2_with fail
      refine (anchor_any g w1 Hw1.out.2).mono ?_
      rintro e w2 ⟨rfl, hb⟩
      have Hw2 := Lib.hid (Hw1.out.step hb)
      clear hb
      go_wp2_with fail
      refine (HM1.out w2 Hw2.out.2).mono ?_
      rintro e w3 ⟨rfl, hb⟩
      have Hw3 := Lib.hid (Hw2.out.step hb)
      clear hb
      go_wp2_with fail
      refine (HT1.out w3).mono ?_
      rintro e v1 ⟨rfl, rfl⟩
      go_wp2_with fail
      refine (HT2.out w3).mono ?_
      rintro e v1 ⟨rfl, rfl⟩
      go_wp2_with fail
      refine (HS2.out w3 Hw3.out.2).mono ?_
      rintro e w4 ⟨rfl, hb⟩
      have Hw4 := Lib.hid (Hw3.out.step hb)
      clear hb
      go_wp2_with fail
      refine (HC2.out w4 Hw4.out.2).mono ?_
      rintro e v1 ⟨rfl, rfl⟩
      go_wp2
      go_ret
      exact ⟨rfl, Hw4.out.1⟩
    obtain ⟨l, rfl⟩ := Int.eq_ofNat_of_zero_le c6
    have hl : l < 74 := by omega
    clear c6 c7
    by_cases c8 : l = i
    · subst c8
      go_enter Try.func6, Try.ntmps6
      go_wp2_with fail
      refine HN.out.mono ?_
      rintro e w1 ⟨rfl, hc, hb⟩
      have Hw1 := Lib.hid (HS.new hc hb)
      clear hc hb
      rw [HGG.out] at Hw1 ⊢
      go_wp2_with fail
      refine (anchor_any g w1 Hw1.out.2).mono ?_
      rintro e w2 ⟨rfl, hb⟩
      have Hw2 := Lib.hid (Hw1.out.step hb)
      clear hb
      go_wp2_with fail
      refine (HM1.out w2 Hw2.out.2).mono ?_
      rintro e w3 ⟨rfl, hb⟩
      have Hw3 := Lib.hid (Hw2.out.step hb)
      clear hb
      go_wp2_with fail
      refine (HT1.out w3).mono ?_
      rintro e v1 ⟨rfl, rfl⟩
      go_wp2_with fail
      refine (HT2.out w3).mono ?_
      rintro e v1 ⟨rfl, rfl⟩
      go_wp2_with fail
      refine (HS2.out w3 Hw3.out.2).mono ?_
      rintro e w4 ⟨rfl, hb⟩
      have Hw4 := Lib.hid (Hw3.out.step hb)
      clear hb
      go_wp2_with fail
      refine (HC2.out w4 Hw4.out.2).mono ?_
      rintro e v1 ⟨rfl, rfl⟩
      go_wp2
      go_ret
      exact ⟨rfl, Hw4.out.1⟩
    · by_cases c9 : l = j
      · subst c9
        have b8 : ((l : Int) == (i : Int)) = false := by rw [beq_eq_false_iff_ne]; omega
        go_enter Try.func6, Try.ntmps6
        go_wp2_with fail
        refine HN.out.mono ?_
        rintro e w1 ⟨rfl, hc, hb⟩
        have Hw1 := Lib.hid (HS.new hc hb)
        clear hc hb
        rw [HGG.out] at Hw1 ⊢
        go_wp2_with fail
        refine (anchor_any g w1 Hw1.out.2).mono ?_
        rintro e w2 ⟨rfl, hb⟩
        have Hw2 := Lib.hid (Hw1.out.step hb)
        clear hb
        go_wp2_with fail
        refine (HM1.out w2 Hw2.out.2).mono ?_
        rintro e w3 ⟨rfl, hb⟩
        have Hw3 := Lib.hid (Hw2.out.step hb)
        clear hb
        go_wp2_with fail
        refine (HT1.out w3).mono ?_
        rintro e v1 ⟨rfl, rfl⟩
        go_wp2_with fail
        refine (HT2.out w3).mono ?_
        rintro e v1 ⟨rfl, rfl⟩
        go_wp2_with fail
        refine (HS2.out w3 Hw3.out.2).mono ?_
        rintro e w4 ⟨rfl, hb⟩
        have Hw4 := Lib.hid (Hw3.out.step hb)
        clear hb
        go_wp2_with fail
        refine (HC2.out w4 Hw4.out.2).mono ?_
        rintro e v1 ⟨rfl, rfl⟩
        go_wp2
        go_ret
        exact ⟨rfl, Hw4.out.1⟩
      · have b8 : ((l : Int) == (i : Int)) = false := by rw [beq_eq_false_iff_ne]; omega
        have b9 : ((l : Int) == (j : Int)) = false := by rw [beq_eq_false_iff_ne]; omega
        have T3 := HT3.out l hl
        have S3 := HS3.out l
        have hs := Hs3.out l hl
        rw [hs] at S3
        have hne := verdict_ne (three_clean hi hj hl hij)
        have ls : col i ^^^ col j ^^^ col l < 256 := Nat.xor_lt_two_pow (n := 8) (Nat.xor_lt_two_pow (n := 8) (col_lt i) (col_lt j)) (col_lt l)
        have C3 := fun W h => classify_any g (col i ^^^ col j ^^^ col l) ls W h
        obtain ⟨S3v, hSv⟩ : ∃ S, col i ^^^ col j ^^^ col l = S := ⟨_, rfl⟩
        rw [hSv] at S3 C3 hne
        obtain ⟨K, hK⟩ : ∃ K, (verdict S3v).1 = K := ⟨_, rfl⟩
        obtain ⟨L, hL⟩ : ∃ L, (verdict S3v).2 = L := ⟨_, rfl⟩
        rw [hK, hL] at C3
        rw [hK] at hne
        have q1 : ((K : Int) != 0) = true := by rw [bne_iff_ne]; omega
        have q2 : ((K : Int) == 0) = false := by rw [beq_eq_false_iff_ne]; omega
        have HT3' := Lib.hid T3
        have HS3' := Lib.hid S3
        have HC3 := Lib.hid C3
        clear T3 S3 C3 hs hSv hK hL ls HT3 HS3 Hs3 c8 c9
        go_enter Try.func6, Try.ntmps6
        go_wp2_with fail
        refine HN.out.mono ?_
        rintro e w1 ⟨rfl, hc, hb⟩
        have Hw1 := Lib.hid (HS.new hc hb)
        clear hc hb
        rw [HGG.out] at Hw1 ⊢
        go_wp2_with fail
        refine (anchor_any g w1 Hw1.out.2).mono ?_
        rintro e w2 ⟨rfl, hb⟩
        have Hw2 := Lib.hid (Hw1.out.step hb)
        clear hb
        go_wp2_with fail
        refine (HM1.out w2 Hw2.out.2).mono ?_
        rintro e w3 ⟨rfl, hb⟩
        have Hw3 := Lib.hid (Hw2.out.step hb)
        clear hb
        go_wp2_with fail
        refine (HT1.out w3).mono ?_
        rintro e v1 ⟨rfl, rfl⟩
        go_wp2_with fail
        refine (HT2.out w3).mono ?_
        rintro e v1 ⟨rfl, rfl⟩
        go_wp2_with fail
        refine (HS2.out w3 Hw3.out.2).mono ?_
        rintro e w4 ⟨rfl, hb⟩
        have Hw4 := Lib.hid (Hw3.out.step hb)
        clear hb
        go_wp2_with fail
        refine (HC2.out w4 Hw4.out.2).mono ?_
        rintro e v1 ⟨rfl, rfl⟩
        go_wp2_with fail
        refine (HT3'.out w4).mono ?_
        rintro e v1 ⟨rfl, rfl⟩
        go_wp2_with fail
        refine (HS3'.out w4 Hw4.out.2).mono ?_
        rintro e w5 ⟨rfl, hb⟩
        have Hw5 := Lib.hid (Hw4.out.step hb)
        clear hb
        go_wp2_with fail
        refine (HC3.out w5 Hw5.out.2).mono ?_
        rintro e v1 ⟨rfl, rfl⟩
        go_wp2
        go_ret
        exact ⟨rfl, Hw5.out.1⟩
end Go.Proofs.Ytbhonojfglhbeaa
