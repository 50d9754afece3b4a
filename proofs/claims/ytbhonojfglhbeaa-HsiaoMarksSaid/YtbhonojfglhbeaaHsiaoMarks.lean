/- HsiaoMarks, walked: for every d, a, i the law returns true. -/
import Derived.Test.YtbhonojfglhbeaaHsL
namespace Go.Proofs.Ytbhonojfglhbeaa
open Go.RowKit

set_option maxRecDepth 100000 in
set_option maxHeartbeats 2000000 in
theorem HsiaoMarks_walk (a0 a1 a2 : Int) (w : World) (w0 : (Lit.int .u64 a0).wf = true) (_w1 : (Lit.int .i64 a1).wf = true) (_w2 : (Lit.int .i64 a2).wf = true) :
    Calls Try.prog 9 #[.int .u64 a0, .int .i64 a1, .int .i64 a2] w fun e w' => e = .returned (.bool true) ∧ Below w.heap.size w w' := by
  obtain ⟨d, rfl, ld⟩ := lit_u64h w0
  clear w0
  have hand := i64_and1I a1
  obtain ⟨x, hx⟩ : ∃ x, low a1 = x := ⟨_, rfl⟩
  have lx := low_lt a1
  rw [hx] at hand lx
  clear hx
  have ex := low_nat lx
  have fx := low_flip lx
  have l1 : low 1 = 1 := rfl
  have l0 : low 0 = 0 := rfl
  have x0 : (0 : Int) ≤ 1 - (x : Int) := by omega
  have x1 : (1 : Int) - (x : Int) ≤ 1 := by omega
  obtain ⟨g, hg⟩ : ∃ g, w.heap.size = g := ⟨_, rfl⟩
  have HN := Lib.hid (new_any w)
  have HGG := Lib.hid hg
  clear hg
  have lP := chk_lt d x 1
  have lQ := chk_lt d x 0
  have M1 := fun W h => check_any g d ld (x : Int) 1 W h
  have M2 := fun W h => decode_any g d (chk d x 1) ld lP (x : Int) W h
  have M3 := fun W h => check_any g d ld (x : Int) 0 W h
  have M4 := fun W h => decode_any g d (chk d x 0) ld lQ (1 - (x : Int)) W h
  rw [ex, l1] at M1
  rw [ex, marks_poison, verdict_73] at M2
  rw [ex, l0] at M3
  rw [fx, marks_astray d lx, verdict_72] at M4
  by_cases hin : 0 ≤ a2 ∧ a2 ≤ 71
  · obtain ⟨i, rfl⟩ := Int.eq_ofNat_of_zero_le hin.1
    have hi : i < 72 := by omega
    have i0 : ¬ (71 : Int) < (i : Int) := by omega
    clear hin
    have T1 := fun W => turned_any d (chk d x 1) ld lP (x : Int) 1 i (by omega) W
    have T2 := fun W => turned_any d (chk d x 0) ld lQ (x : Int) 0 i (by omega) W
    have lD := tD_lt i ld
    have lK1 := tK_lt i lP
    have lK0 := tK_lt i lQ
    have D1 := fun W h => decode_any g (tD d i) (tK (chk d x 1) i) lD lK1 (x : Int) W h
    have D2 := fun W h => decode_any g (tD d i) (tK (chk d x 0) i) lD lK0 (1 - (x : Int)) W h
    rw [ex, turn_chk d _ i x hi, marks_poison, two_lost (by omega) (by omega) (by omega)] at D1
    rw [fx, turn_chk d _ i _ hi, marks_astray d lx, two_lost (by omega) (by omega) (by omega)] at D2
    obtain ⟨P, hP⟩ : ∃ P, chk d x 1 = P := ⟨_, rfl⟩
    rw [hP] at M1 M2 T1 D1 lP lK1
    obtain ⟨Q, hQ⟩ : ∃ Q, chk d x 0 = Q := ⟨_, rfl⟩
    rw [hQ] at M3 M4 T2 D2 lQ lK0
    obtain ⟨DD, hDD⟩ : ∃ DD, tD d i = DD := ⟨_, rfl⟩
    rw [hDD] at T1 T2 D1 D2 lD
    obtain ⟨K1, hK1⟩ : ∃ K1, tK P i = K1 := ⟨_, rfl⟩
    rw [hK1] at T1 D1 lK1
    obtain ⟨K0, hK0⟩ : ∃ K0, tK Q i = K0 := ⟨_, rfl⟩
    rw [hK0] at T2 D2 lK0
    have HM1 := Lib.hid M1
    have HM2 := Lib.hid M2
    have HM3 := Lib.hid M3
    have HM4 := Lib.hid M4
    have HT1 := Lib.hid T1
    have HT2 := Lib.hid T2
    have HD1 := Lib.hid D1
    have HD2 := Lib.hid D2
    clear M1 M2 M3 M4 T1 T2 D1 D2 hP hQ hDD hK1 hK0 lP lQ lD lK1 lK0 ex fx l1 l0
    go_enter Try.func9, Try.ntmps9
    go_wp2_with fail
    refine HN.out.mono ?_
    rintro e w1 ⟨rfl, hc, hb⟩
    have Hw1 := Lib.hid (HS.new hc hb)
    clear hc hb
    rw [HGG.out] at Hw1 ⊢
    go_wp2_with fail
    refine (anchor_any g w1 Hw1.out.2).mono ?_
    rintro e w2 ⟨rfl, hb⟩
    have Hw2 := Lib.hid (Hw1.out.step hb)
    clear hb
    go_wp2_with fail
    refine (HM1.out w2 Hw2.out.2).mono ?_
    rintro e w3 ⟨rfl, hb⟩
    have Hw3 := Lib.hid (Hw2.out.step hb)
    clear hb
    go_wp2_with fail
    refine (HM2.out w3 Hw3.out.2).mono ?_
    rintro e w4 ⟨rfl, hb⟩
    have Hw4 := Lib.hid (Hw3.out.step hb)
    clear hb
    go_wp2_with fail
    refine (HM3.out w4 Hw4.out.2).mono ?_
    rintro e w5 ⟨rfl, hb⟩
    have Hw5 := Lib.hid (Hw4.out.step hb)
    clear hb
    go_wp2_with fail
    refine (HM4.out w5 Hw5.out.2).mono ?_
    rintro e w6 ⟨rfl, hb⟩
    have Hw6 := Lib.hid (Hw5.out.step hb)
    clear hb
    go_wp2_with fail
    refine (HM1.out w6 Hw6.out.2).mono ?_
    rintro e w7 ⟨rfl, hb⟩
    have Hw7 := Lib.hid (Hw6.out.step hb)
    clear hb
    go_wp2_with fail
    refine (HT1.out w7).mono ?_
    rintro e v1 ⟨rfl, rfl⟩
    go_wp2_with fail
    refine (HD1.out w7 Hw7.out.2).mono ?_
    rintro e w8 ⟨rfl, hb⟩
    have Hw8 := Lib.hid (Hw7.out.step hb)
    clear hb
    go_wp2_with fail
    refine (HM3.out w8 Hw8.out.2).mono ?_
    rintro e w9 ⟨rfl, hb⟩
    have Hw9 := Lib.hid (Hw8.out.step hb)
    clear hb
    go_wp2_with fail
    refine (HT2.out w9).mono ?_
    rintro e v2 ⟨rfl, rfl⟩
    go_wp2_with fail
    refine (HD2.out w9 Hw9.out.2).mono ?_
    rintro e w10 ⟨rfl, hb⟩
    have Hw10 := Lib.hid (Hw9.out.step hb)
    clear hb
    go_wp2
    go_ret
    exact ⟨rfl, Hw10.out.1⟩
  · obtain ⟨P, hP⟩ : ∃ P, chk d x 1 = P := ⟨_, rfl⟩
    rw [hP] at M1 M2
    obtain ⟨Q, hQ⟩ : ∃ Q, chk d x 0 = Q := ⟨_, rfl⟩
    rw [hQ] at M3 M4
    have HM1 := Lib.hid M1
    have HM2 := Lib.hid M2
    have HM3 := Lib.hid M3
    have HM4 := Lib.hid M4
    clear M1 M2 M3 M4 hP hQ lP lQ ex fx l1 l0
    by_cases h0 : 0 ≤ a2
    · have h1 : 71 < a2 := by omega
      clear hin
      go_enter Try.func9, Try.ntmps9
      go_wp2_with fail
      refine HN.out.mono ?_
      rintro e w1 ⟨rfl, hc, hb⟩
      have Hw1 := Lib.hid (HS.new hc hb)
      clear hc hb
      rw [HGG.out] at Hw1 ⊢
      go_wp2_with fail
      refine (anchor_any g w1 Hw1.out.2).mono ?_
      rintro e w2 ⟨rfl, hb⟩
      have Hw2 := Lib.hid (Hw1.out.step hb)
      clear hb
      go_wp2_with fail
      refine (HM1.out w2 Hw2.out.2).mono ?_
      rintro e w3 ⟨rfl, hb⟩
      have Hw3 := Lib.hid (Hw2.out.step hb)
      clear hb
      go_wp2_with fail
      refine (HM2.out w3 Hw3.out.2).mono ?_
      rintro e w4 ⟨rfl, hb⟩
      have Hw4 := Lib.hid (Hw3.out.step hb)
      clear hb
      go_wp2_with fail
      refine (HM3.out w4 Hw4.out.2).mono ?_
      rintro e w5 ⟨rfl, hb⟩
      have Hw5 := Lib.hid (Hw4.out.step hb)
      clear hb
      go_wp2_with fail
      refine (HM4.out w5 Hw5.out.2).mono ?_
      rintro e w6 ⟨rfl, hb⟩
      have Hw6 := Lib.hid (Hw5.out.step hb)
      clear hb
      go_wp2
      go_ret
      exact ⟨rfl, Hw6.out.1⟩
    · clear hin
      go_enter Try.func9, Try.ntmps9
      go_wp2_with fail
      refine HN.out.mono ?_
      rintro e w1 ⟨rfl, hc, hb⟩
      have Hw1 := Lib.hid (HS.new hc hb)
      clear hc hb
      rw [HGG.out] at Hw1 ⊢
      go_wp2_with fail
      refine (anchor_any g w1 Hw1.out.2).mono ?_
      rintro e w2 ⟨rfl, hb⟩
      have Hw2 := Lib.hid (Hw1.out.step hb)
      clear hb
      go_wp2_with fail
      refine (HM1.out w2 Hw2.out.2).mono ?_
      rintro e w3 ⟨rfl, hb⟩
      have Hw3 := Lib.hid (Hw2.out.step hb)
      clear hb
      go_wp2_with fail
      refine (HM2.out w3 Hw3.out.2).mono ?_
      rintro e w4 ⟨rfl, hb⟩
      have Hw4 := Lib.hid (Hw3.out.step hb)
      clear hb
      go_wp2_with fail
      refine (HM3.out w4 Hw4.out.2).mono ?_
      rintro e w5 ⟨rfl, hb⟩
      have Hw5 := Lib.hid (Hw4.out.step hb)
      clear hb
      go_wp2_with fail
      refine (HM4.out w5 Hw5.out.2).mono ?_
      rintro e w6 ⟨rfl, hb⟩
      have Hw6 := Lib.hid (Hw5.out.step hb)
      clear hb
      go_wp2
      go_ret
      exact ⟨rfl, Hw6.out.1⟩
end Go.Proofs.Ytbhonojfglhbeaa
