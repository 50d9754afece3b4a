/- HsiaoChecks, walked: for every d, k, a, p the law returns true. -/
import Derived.Test.YtbhonojfglhbeaaHsA
namespace Go.Proofs.Ytbhonojfglhbeaa
open Go.RowKit


set_option maxRecDepth 100000 in
set_option maxHeartbeats 4000000 in
theorem HsiaoChecks_walk (a0 a1 a2 a3 : Int) (w : World) (w0 : (Lit.int .u64 a0).wf = true) (w1 : (Lit.int .u8 a1).wf = true) (_w2 : (Lit.int .i64 a2).wf = true) (_w3 : (Lit.int .i64 a3).wf = true) :
    Calls Try.prog 7 #[.int .u64 a0, .int .u8 a1, .int .i64 a2, .int .i64 a3] w fun e w' => e = .returned (.bool true) ∧ Below w.heap.size w w' := by
  obtain ⟨d, rfl, ld⟩ := lit_u64h w0
  obtain ⟨k, rfl, lk⟩ := lit_u8h w1
  clear w0 w1
  obtain ⟨g, hg⟩ : ∃ g, w.heap.size = g := ⟨_, rfl⟩
  have HN := Lib.hid (new_any w)
  have HGG := Lib.hid hg
  clear hg
  have lc := chk_lt d (low a2) (low a3)
  have ls : chk d (low a2) (low a3) ^^^ k < 256 := Nat.xor_lt_two_pow (n := 8) lc lk
  have lt : chk d (low a2) 0 ^^^ k < 256 := Nat.xor_lt_two_pow (n := 8) (chk_lt _ _ _) lk
  have D1 := fun W h => syndrome_any g d k ld lk a2 a3 W h
  have D2 := fun W h => classify_any g (chk d (low a2) (low a3) ^^^ k) ls W h
  have D3 := fun W => refClassify_any (chk d (low a2) (low a3) ^^^ k) ls W
  have D4 := fun W h => decode_any g d k ld lk a2 W h
  have D5 := fun W => refSyndrome_any d k ld lk a2 0 W
  rw [show low 0 = 0 from rfl] at D5
  have D6 := fun W => refClassify_any (chk d (low a2) 0 ^^^ k) lt W
  have D7 := fun W => refSyndrome_any d k ld lk a2 a3 W
  have D8 := fun W h => check_any g d ld a2 a3 W h
  have D9 := fun W h => syndrome_any g d (chk d (low a2) (low a3)) ld lc a2 a3 W h
  rw [Nat.xor_self] at D9
  have DC := fun W => refColumns_any W
  have DS := fun W => run_storeCells_new (P := Try.prog) W 41 (colsAt 0) colsV (by rw [show colsV.size = 74 from colsAt_size (Nat.le_refl _)]; exact info74) ((colsAt_size (by omega)).trans (colsAt_size (Nat.le_refl _)).symm) oneV
  have DI : (Try.prog.info? 41).map (·.size) = some colsV.size := by rw [show colsV.size = 74 from colsAt_size (Nat.le_refl _)]; exact info74
  obtain ⟨cv, hcv⟩ : ∃ cv, colsV = cv := ⟨_, rfl⟩
  have hsz : cv.size = 74 := by rw [← hcv]; exact colsAt_size (Nat.le_refl _)
  rw [hcv] at D3 D5 D6 D7 DC DS DI
  obtain ⟨C, hC⟩ : ∃ C, chk d (low a2) (low a3) = C := ⟨_, rfl⟩
  rw [hC] at D1 D2 D3 D7 D8 D9 ls lc
  obtain ⟨S, hS⟩ : ∃ S, C ^^^ k = S := ⟨_, rfl⟩
  rw [hS] at D1 D2 D3 D7 ls
  obtain ⟨K1, hK1⟩ : ∃ K, (verdict S).1 = K := ⟨_, rfl⟩
  obtain ⟨L1, hL1⟩ : ∃ L, (verdict S).2 = L := ⟨_, rfl⟩
  rw [hK1, hL1] at D2 D3
  obtain ⟨T, hT⟩ : ∃ T, chk d (low a2) 0 ^^^ k = T := ⟨_, rfl⟩
  rw [hT] at D4 D5 D6 lt
  have hz := zero74
  have H1 := Lib.hid D1
  have H2 := Lib.hid D2
  have H3 := Lib.hid D3
  have H5 := Lib.hid D5
  have H7 := Lib.hid D7
  have H8 := Lib.hid D8
  have H9 := Lib.hid D9
  have HCO := Lib.hid DC
  have HST := Lib.hid DS
  have HI74 := Lib.hid DI
  have hvc := verdict_cases lt
  clear D1 D2 D3 D5 D7 D8 D9 DC DS DI hcv hC hS hK1 hL1 hT ls lc
  rcases hvc with ⟨-, hv⟩ | ⟨-, -, hv⟩ | ⟨-, hv⟩ | ⟨-, hv⟩ | ⟨t, ht, -, hv⟩
  · rw [hv] at D4 D6
    rw [show decD d (0, -1) = d from if_neg (by rintro ⟨h, _⟩; cases h)] at D4
    have H4 := Lib.hid D4
    have H6 := Lib.hid D6
    clear D4 D6 hv
    go_enter Try.func7, Try.ntmps7
    go_wp2_with fail
    refine HN.out.mono ?_
    rintro e w1 ⟨rfl, hc, hb⟩
    have Hw1 := Lib.hid (HS.new hc hb)
    clear hc hb
    rw [HGG.out] at Hw1 ⊢
    go_wp2_with fail
    refine (anchor_any g w1 Hw1.out.2).mono ?_
    rintro e w2 ⟨rfl, hb⟩
    have Hw2 := Lib.hid (Hw1.out.step hb)
    clear hb
    go_wp2_with fail
    refine (HCO.out w2).mono ?_
    rintro e w3 ⟨rfl, hb⟩
    have Hw3 := Lib.hid (Hw2.out.step hb)
    clear hb
    have hst := HST.out w3
    go_wp2_with fail
    clear hst hsz
    obtain ⟨b1, hb1⟩ : ∃ b1, w3.heap.size = b1 := ⟨_, rfl⟩
    obtain ⟨v4, hv4⟩ : ∃ v4, w3.alloc (.cells cv 41) = v4 := ⟨_, rfl⟩
    rw [hv4, hb1]
    have Hwv4 := Lib.hid (show HS w g v4 by rw [← hv4]; exact Hw3.out.step ((Below.refl _ _).alloc (Nat.le_refl _) _))
    have Hbv4 := Lib.hid (show Blk v4 b1 41 cv by rw [← hv4, ← hb1]; exact Blk.new w3 _ _)
    clear hv4 hb1
    refine (H1.out v4 Hwv4.out.2).mono ?_
    rintro e v5 ⟨rfl, hb⟩
    have Hwv5 := Lib.hid (Hwv4.out.step hb)
    have Hbv5 := Lib.hid (Blk.below Hbv4.out hb (Blk.lt Hbv4.out))
    clear hb
    go_wp2_with fail
    refine (H2.out v5 Hwv5.out.2).mono ?_
    rintro e u1 ⟨rfl, rfl⟩
    go_wp2_with (refine wpList_load_row rfl 41 (.tmp 10) rfl b1 rfl 41 cv (0, 0) _ Hbv5.out Try.underlying41 rfl HI74.out ?_)
    refine (H3.out v5).mono ?_
    rintro e v6 ⟨rfl, hb⟩
    have Hwv6 := Lib.hid (Hwv5.out.step hb)
    have Hbv6 := Lib.hid (Blk.below Hbv5.out hb (Blk.lt Hbv5.out))
    clear hb
    go_wp2_with fail
    refine (H4.out v6 Hwv6.out.2).mono ?_
    rintro e v7 ⟨rfl, hb⟩
    have Hwv7 := Lib.hid (Hwv6.out.step hb)
    have Hbv7 := Lib.hid (Blk.below Hbv6.out hb (Blk.lt Hbv6.out))
    clear hb
    go_wp2_with (refine wpList_load_row rfl 41 (.tmp 10) rfl b1 rfl 41 cv (0, 0) _ Hbv7.out Try.underlying41 rfl HI74.out ?_)
    refine (H5.out v7).mono ?_
    rintro e v8 ⟨rfl, hb⟩
    have Hwv8 := Lib.hid (Hwv7.out.step hb)
    have Hbv8 := Lib.hid (Blk.below Hbv7.out hb (Blk.lt Hbv7.out))
    clear hb
    go_wp2_with (refine wpList_load_row rfl 41 (.tmp 10) rfl b1 rfl 41 cv (0, 0) _ Hbv8.out Try.underlying41 rfl HI74.out ?_)
    refine (H6.out v8).mono ?_
    rintro e v9 ⟨rfl, hb⟩
    have Hwv9 := Lib.hid (Hwv8.out.step hb)
    have Hbv9 := Lib.hid (Blk.below Hbv8.out hb (Blk.lt Hbv8.out))
    clear hb
    go_wp2_with (refine wpList_load_row rfl 41 (.tmp 10) rfl b1 rfl 41 cv (0, 0) _ Hbv9.out Try.underlying41 rfl HI74.out ?_)
    refine (H7.out v9).mono ?_
    rintro e v10 ⟨rfl, hb⟩
    have Hwv10 := Lib.hid (Hwv9.out.step hb)
    have Hbv10 := Lib.hid (Blk.below Hbv9.out hb (Blk.lt Hbv9.out))
    clear hb
    go_wp2_with fail
    refine (H8.out v10 Hwv10.out.2).mono ?_
    rintro e v11 ⟨rfl, hb⟩
    have Hwv11 := Lib.hid (Hwv10.out.step hb)
    have Hbv11 := Lib.hid (Blk.below Hbv10.out hb (Blk.lt Hbv10.out))
    clear hb
    go_wp2_with fail
    refine (H9.out v11 Hwv11.out.2).mono ?_
    rintro e v12 ⟨rfl, hb⟩
    have Hwv12 := Lib.hid (Hwv11.out.step hb)
    have Hbv12 := Lib.hid (Blk.below Hbv11.out hb (Blk.lt Hbv11.out))
    clear hb
    go_wp2
    go_ret
    exact ⟨rfl, Hwv12.out.1⟩
  · rw [hv] at D4 D6
    rw [show decD d (4, -1) = d from if_neg (by rintro ⟨h, _⟩; cases h)] at D4
    have H4 := Lib.hid D4
    have H6 := Lib.hid D6
    clear D4 D6 hv
    go_enter Try.func7, Try.ntmps7
    go_wp2_with fail
    refine HN.out.mono ?_
    rintro e w1 ⟨rfl, hc, hb⟩
    have Hw1 := Lib.hid (HS.new hc hb)
    clear hc hb
    rw [HGG.out] at Hw1 ⊢
    go_wp2_with fail
    refine (anchor_any g w1 Hw1.out.2).mono ?_
    rintro e w2 ⟨rfl, hb⟩
    have Hw2 := Lib.hid (Hw1.out.step hb)
    clear hb
    go_wp2_with fail
    refine (HCO.out w2).mono ?_
    rintro e w3 ⟨rfl, hb⟩
    have Hw3 := Lib.hid (Hw2.out.step hb)
    clear hb
    have hst := HST.out w3
    go_wp2_with fail
    clear hst hsz
    obtain ⟨b1, hb1⟩ : ∃ b1, w3.heap.size = b1 := ⟨_, rfl⟩
    obtain ⟨v4, hv4⟩ : ∃ v4, w3.alloc (.cells cv 41) = v4 := ⟨_, rfl⟩
    rw [hv4, hb1]
    have Hwv4 := Lib.hid (show HS w g v4 by rw [← hv4]; exact Hw3.out.step ((Below.refl _ _).alloc (Nat.le_refl _) _))
    have Hbv4 := Lib.hid (show Blk v4 b1 41 cv by rw [← hv4, ← hb1]; exact Blk.new w3 _ _)
    clear hv4 hb1
    refine (H1.out v4 Hwv4.out.2).mono ?_
    rintro e v5 ⟨rfl, hb⟩
    have Hwv5 := Lib.hid (Hwv4.out.step hb)
    have Hbv5 := Lib.hid (Blk.below Hbv4.out hb (Blk.lt Hbv4.out))
    clear hb
    go_wp2_with fail
    refine (H2.out v5 Hwv5.out.2).mono ?_
    rintro e u1 ⟨rfl, rfl⟩
    go_wp2_with (refine wpList_load_row rfl 41 (.tmp 10) rfl b1 rfl 41 cv (0, 0) _ Hbv5.out Try.underlying41 rfl HI74.out ?_)
    refine (H3.out v5).mono ?_
    rintro e v6 ⟨rfl, hb⟩
    have Hwv6 := Lib.hid (Hwv5.out.step hb)
    have Hbv6 := Lib.hid (Blk.below Hbv5.out hb (Blk.lt Hbv5.out))
    clear hb
    go_wp2_with fail
    refine (H4.out v6 Hwv6.out.2).mono ?_
    rintro e v7 ⟨rfl, hb⟩
    have Hwv7 := Lib.hid (Hwv6.out.step hb)
    have Hbv7 := Lib.hid (Blk.below Hbv6.out hb (Blk.lt Hbv6.out))
    clear hb
    go_wp2_with (refine wpList_load_row rfl 41 (.tmp 10) rfl b1 rfl 41 cv (0, 0) _ Hbv7.out Try.underlying41 rfl HI74.out ?_)
    refine (H5.out v7).mono ?_
    rintro e v8 ⟨rfl, hb⟩
    have Hwv8 := Lib.hid (Hwv7.out.step hb)
    have Hbv8 := Lib.hid (Blk.below Hbv7.out hb (Blk.lt Hbv7.out))
    clear hb
    go_wp2_with (refine wpList_load_row rfl 41 (.tmp 10) rfl b1 rfl 41 cv (0, 0) _ Hbv8.out Try.underlying41 rfl HI74.out ?_)
    refine (H6.out v8).mono ?_
    rintro e v9 ⟨rfl, hb⟩
    have Hwv9 := Lib.hid (Hwv8.out.step hb)
    have Hbv9 := Lib.hid (Blk.below Hbv8.out hb (Blk.lt Hbv8.out))
    clear hb
    go_wp2_with (refine wpList_load_row rfl 41 (.tmp 10) rfl b1 rfl 41 cv (0, 0) _ Hbv9.out Try.underlying41 rfl HI74.out ?_)
    refine (H7.out v9).mono ?_
    rintro e v10 ⟨rfl, hb⟩
    have Hwv10 := Lib.hid (Hwv9.out.step hb)
    have Hbv10 := Lib.hid (Blk.below Hbv9.out hb (Blk.lt Hbv9.out))
    clear hb
    go_wp2_with fail
    refine (H8.out v10 Hwv10.out.2).mono ?_
    rintro e v11 ⟨rfl, hb⟩
    have Hwv11 := Lib.hid (Hwv10.out.step hb)
    have Hbv11 := Lib.hid (Blk.below Hbv10.out hb (Blk.lt Hbv10.out))
    clear hb
    go_wp2_with fail
    refine (H9.out v11 Hwv11.out.2).mono ?_
    rintro e v12 ⟨rfl, hb⟩
    have Hwv12 := Lib.hid (Hwv11.out.step hb)
    have Hbv12 := Lib.hid (Blk.below Hbv11.out hb (Blk.lt Hbv11.out))
    clear hb
    go_wp2
    go_ret
    exact ⟨rfl, Hwv12.out.1⟩
  · rw [hv] at D4 D6
    rw [show decD d (3, -1) = d from if_neg (by rintro ⟨h, _⟩; cases h)] at D4
    have H4 := Lib.hid D4
    have H6 := Lib.hid D6
    clear D4 D6 hv
    go_enter Try.func7, Try.ntmps7
    go_wp2_with fail
    refine HN.out.mono ?_
    rintro e w1 ⟨rfl, hc, hb⟩
    have Hw1 := Lib.hid (HS.new hc hb)
    clear hc hb
    rw [HGG.out] at Hw1 ⊢
    go_wp2_with fail
    refine (anchor_any g w1 Hw1.out.2).mono ?_
    rintro e w2 ⟨rfl, hb⟩
    have Hw2 := Lib.hid (Hw1.out.step hb)
    clear hb
    go_wp2_with fail
    refine (HCO.out w2).mono ?_
    rintro e w3 ⟨rfl, hb⟩
    have Hw3 := Lib.hid (Hw2.out.step hb)
    clear hb
    have hst := HST.out w3
    go_wp2_with fail
    clear hst hsz
    obtain ⟨b1, hb1⟩ : ∃ b1, w3.heap.size = b1 := ⟨_, rfl⟩
    obtain ⟨v4, hv4⟩ : ∃ v4, w3.alloc (.cells cv 41) = v4 := ⟨_, rfl⟩
    rw [hv4, hb1]
    have Hwv4 := Lib.hid (show HS w g v4 by rw [← hv4]; exact Hw3.out.step ((Below.refl _ _).alloc (Nat.le_refl _) _))
    have Hbv4 := Lib.hid (show Blk v4 b1 41 cv by rw [← hv4, ← hb1]; exact Blk.new w3 _ _)
    clear hv4 hb1
    refine (H1.out v4 Hwv4.out.2).mono ?_
    rintro e v5 ⟨rfl, hb⟩
    have Hwv5 := Lib.hid (Hwv4.out.step hb)
    have Hbv5 := Lib.hid (Blk.below Hbv4.out hb (Blk.lt Hbv4.out))
    clear hb
    go_wp2_with fail
    refine (H2.out v5 Hwv5.out.2).mono ?_
    rintro e u1 ⟨rfl, rfl⟩
    go_wp2_with (refine wpList_load_row rfl 41 (.tmp 10) rfl b1 rfl 41 cv (0, 0) _ Hbv5.out Try.underlying41 rfl HI74.out ?_)
    refine (H3.out v5).mono ?_
    rintro e v6 ⟨rfl, hb⟩
    have Hwv6 := Lib.hid (Hwv5.out.step hb)
    have Hbv6 := Lib.hid (Blk.below Hbv5.out hb (Blk.lt Hbv5.out))
    clear hb
    go_wp2_with fail
    refine (H4.out v6 Hwv6.out.2).mono ?_
    rintro e v7 ⟨rfl, hb⟩
    have Hwv7 := Lib.hid (Hwv6.out.step hb)
    have Hbv7 := Lib.hid (Blk.below Hbv6.out hb (Blk.lt Hbv6.out))
    clear hb
    go_wp2_with (refine wpList_load_row rfl 41 (.tmp 10) rfl b1 rfl 41 cv (0, 0) _ Hbv7.out Try.underlying41 rfl HI74.out ?_)
    refine (H5.out v7).mono ?_
    rintro e v8 ⟨rfl, hb⟩
    have Hwv8 := Lib.hid (Hwv7.out.step hb)
    have Hbv8 := Lib.hid (Blk.below Hbv7.out hb (Blk.lt Hbv7.out))
    clear hb
    go_wp2_with (refine wpList_load_row rfl 41 (.tmp 10) rfl b1 rfl 41 cv (0, 0) _ Hbv8.out Try.underlying41 rfl HI74.out ?_)
    refine (H6.out v8).mono ?_
    rintro e v9 ⟨rfl, hb⟩
    have Hwv9 := Lib.hid (Hwv8.out.step hb)
    have Hbv9 := Lib.hid (Blk.below Hbv8.out hb (Blk.lt Hbv8.out))
    clear hb
    go_wp2_with (refine wpList_load_row rfl 41 (.tmp 10) rfl b1 rfl 41 cv (0, 0) _ Hbv9.out Try.underlying41 rfl HI74.out ?_)
    refine (H7.out v9).mono ?_
    rintro e v10 ⟨rfl, hb⟩
    have Hwv10 := Lib.hid (Hwv9.out.step hb)
    have Hbv10 := Lib.hid (Blk.below Hbv9.out hb (Blk.lt Hbv9.out))
    clear hb
    go_wp2_with fail
    refine (H8.out v10 Hwv10.out.2).mono ?_
    rintro e v11 ⟨rfl, hb⟩
    have Hwv11 := Lib.hid (Hwv10.out.step hb)
    have Hbv11 := Lib.hid (Blk.below Hbv10.out hb (Blk.lt Hbv10.out))
    clear hb
    go_wp2_with fail
    refine (H9.out v11 Hwv11.out.2).mono ?_
    rintro e v12 ⟨rfl, hb⟩
    have Hwv12 := Lib.hid (Hwv11.out.step hb)
    have Hbv12 := Lib.hid (Blk.below Hbv11.out hb (Blk.lt Hbv11.out))
    clear hb
    go_wp2
    go_ret
    exact ⟨rfl, Hwv12.out.1⟩
  · rw [hv] at D4 D6
    rw [show decD d (2, -1) = d from if_neg (by rintro ⟨h, _⟩; cases h)] at D4
    have H4 := Lib.hid D4
    have H6 := Lib.hid D6
    clear D4 D6 hv
    go_enter Try.func7, Try.ntmps7
    go_wp2_with fail
    refine HN.out.mono ?_
    rintro e w1 ⟨rfl, hc, hb⟩
    have Hw1 := Lib.hid (HS.new hc hb)
    clear hc hb
    rw [HGG.out] at Hw1 ⊢
    go_wp2_with fail
    refine (anchor_any g w1 Hw1.out.2).mono ?_
    rintro e w2 ⟨rfl, hb⟩
    have Hw2 := Lib.hid (Hw1.out.step hb)
    clear hb
    go_wp2_with fail
    refine (HCO.out w2).mono ?_
    rintro e w3 ⟨rfl, hb⟩
    have Hw3 := Lib.hid (Hw2.out.step hb)
    clear hb
    have hst := HST.out w3
    go_wp2_with fail
    clear hst hsz
    obtain ⟨b1, hb1⟩ : ∃ b1, w3.heap.size = b1 := ⟨_, rfl⟩
    obtain ⟨v4, hv4⟩ : ∃ v4, w3.alloc (.cells cv 41) = v4 := ⟨_, rfl⟩
    rw [hv4, hb1]
    have Hwv4 := Lib.hid (show HS w g v4 by rw [← hv4]; exact Hw3.out.step ((Below.refl _ _).alloc (Nat.le_refl _) _))
    have Hbv4 := Lib.hid (show Blk v4 b1 41 cv by rw [← hv4, ← hb1]; exact Blk.new w3 _ _)
    clear hv4 hb1
    refine (H1.out v4 Hwv4.out.2).mono ?_
    rintro e v5 ⟨rfl, hb⟩
    have Hwv5 := Lib.hid (Hwv4.out.step hb)
    have Hbv5 := Lib.hid (Blk.below Hbv4.out hb (Blk.lt Hbv4.out))
    clear hb
    go_wp2_with fail
    refine (H2.out v5 Hwv5.out.2).mono ?_
    rintro e u1 ⟨rfl, rfl⟩
    go_wp2_with (refine wpList_load_row rfl 41 (.tmp 10) rfl b1 rfl 41 cv (0, 0) _ Hbv5.out Try.underlying41 rfl HI74.out ?_)
    refine (H3.out v5).mono ?_
    rintro e v6 ⟨rfl, hb⟩
    have Hwv6 := Lib.hid (Hwv5.out.step hb)
    have Hbv6 := Lib.hid (Blk.below Hbv5.out hb (Blk.lt Hbv5.out))
    clear hb
    go_wp2_with fail
    refine (H4.out v6 Hwv6.out.2).mono ?_
    rintro e v7 ⟨rfl, hb⟩
    have Hwv7 := Lib.hid (Hwv6.out.step hb)
    have Hbv7 := Lib.hid (Blk.below Hbv6.out hb (Blk.lt Hbv6.out))
    clear hb
    go_wp2_with (refine wpList_load_row rfl 41 (.tmp 10) rfl b1 rfl 41 cv (0, 0) _ Hbv7.out Try.underlying41 rfl HI74.out ?_)
    refine (H5.out v7).mono ?_
    rintro e v8 ⟨rfl, hb⟩
    have Hwv8 := Lib.hid (Hwv7.out.step hb)
    have Hbv8 := Lib.hid (Blk.below Hbv7.out hb (Blk.lt Hbv7.out))
    clear hb
    go_wp2_with (refine wpList_load_row rfl 41 (.tmp 10) rfl b1 rfl 41 cv (0, 0) _ Hbv8.out Try.underlying41 rfl HI74.out ?_)
    refine (H6.out v8).mono ?_
    rintro e v9 ⟨rfl, hb⟩
    have Hwv9 := Lib.hid (Hwv8.out.step hb)
    have Hbv9 := Lib.hid (Blk.below Hbv8.out hb (Blk.lt Hbv8.out))
    clear hb
    go_wp2_with (refine wpList_load_row rfl 41 (.tmp 10) rfl b1 rfl 41 cv (0, 0) _ Hbv9.out Try.underlying41 rfl HI74.out ?_)
    refine (H7.out v9).mono ?_
    rintro e v10 ⟨rfl, hb⟩
    have Hwv10 := Lib.hid (Hwv9.out.step hb)
    have Hbv10 := Lib.hid (Blk.below Hbv9.out hb (Blk.lt Hbv9.out))
    clear hb
    go_wp2_with fail
    refine (H8.out v10 Hwv10.out.2).mono ?_
    rintro e v11 ⟨rfl, hb⟩
    have Hwv11 := Lib.hid (Hwv10.out.step hb)
    have Hbv11 := Lib.hid (Blk.below Hbv10.out hb (Blk.lt Hbv10.out))
    clear hb
    go_wp2_with fail
    refine (H9.out v11 Hwv11.out.2).mono ?_
    rintro e v12 ⟨rfl, hb⟩
    have Hwv12 := Lib.hid (Hwv11.out.step hb)
    have Hbv12 := Lib.hid (Blk.below Hbv11.out hb (Blk.lt Hbv11.out))
    clear hb
    go_wp2
    go_ret
    exact ⟨rfl, Hwv12.out.1⟩
  · rw [hv] at D4 D6
    by_cases h64 : t < 64
    · have hdt : decD d (1, (t : Int)) = tD d t := by
        unfold decD tD
        rw [if_pos ⟨rfl, by show (t : Int) < 64; omega⟩, if_pos h64]; rfl
      rw [hdt] at D4
      have D10 := fun W => turned_any d 0 ld (by omega) 0 0 t (by omega) W
      obtain ⟨E, hE⟩ : ∃ E, tD d t = E := ⟨_, rfl⟩
      obtain ⟨X1, hX1⟩ : ∃ E, tK 0 t = E := ⟨_, rfl⟩
      obtain ⟨X2, hX2⟩ : ∃ E, tA 0 t = E := ⟨_, rfl⟩
      obtain ⟨X3, hX3⟩ : ∃ E, tP 0 t = E := ⟨_, rfl⟩
      rw [hE] at D4
      rw [hE, hX1, hX2, hX3] at D10
      have H10 := Lib.hid D10
      have i1 : (t : Int) < 64 := by omega
      clear D10 hE hX1 hX2 hX3 hdt h64
      have H4 := Lib.hid D4
      have H6 := Lib.hid D6
      clear D4 D6 hv
      go_enter Try.func7, Try.ntmps7
      go_wp2_with fail
      refine HN.out.mono ?_
      rintro e w1 ⟨rfl, hc, hb⟩
      have Hw1 := Lib.hid (HS.new hc hb)
      clear hc hb
      rw [HGG.out] at Hw1 ⊢
      go_wp2_with fail
      refine (anchor_any g w1 Hw1.out.2).mono ?_
      rintro e w2 ⟨rfl, hb⟩
      have Hw2 := Lib.hid (Hw1.out.step hb)
      clear hb
      go_wp2_with fail
      refine (HCO.out w2).mono ?_
      rintro e w3 ⟨rfl, hb⟩
      have Hw3 := Lib.hid (Hw2.out.step hb)
      clear hb
      have hst := HST.out w3
      go_wp2_with fail
      clear hst hsz
      obtain ⟨b1, hb1⟩ : ∃ b1, w3.heap.size = b1 := ⟨_, rfl⟩
      obtain ⟨v4, hv4⟩ : ∃ v4, w3.alloc (.cells cv 41) = v4 := ⟨_, rfl⟩
      rw [hv4, hb1]
      have Hwv4 := Lib.hid (show HS w g v4 by rw [← hv4]; exact Hw3.out.step ((Below.refl _ _).alloc (Nat.le_refl _) _))
      have Hbv4 := Lib.hid (show Blk v4 b1 41 cv by rw [← hv4, ← hb1]; exact Blk.new w3 _ _)
      clear hv4 hb1
      refine (H1.out v4 Hwv4.out.2).mono ?_
      rintro e v5 ⟨rfl, hb⟩
      have Hwv5 := Lib.hid (Hwv4.out.step hb)
      have Hbv5 := Lib.hid (Blk.below Hbv4.out hb (Blk.lt Hbv4.out))
      clear hb
      go_wp2_with fail
      refine (H2.out v5 Hwv5.out.2).mono ?_
      rintro e u1 ⟨rfl, rfl⟩
      go_wp2_with (refine wpList_load_row rfl 41 (.tmp 10) rfl b1 rfl 41 cv (0, 0) _ Hbv5.out Try.underlying41 rfl HI74.out ?_)
      refine (H3.out v5).mono ?_
      rintro e v6 ⟨rfl, hb⟩
      have Hwv6 := Lib.hid (Hwv5.out.step hb)
      have Hbv6 := Lib.hid (Blk.below Hbv5.out hb (Blk.lt Hbv5.out))
      clear hb
      go_wp2_with fail
      refine (H4.out v6 Hwv6.out.2).mono ?_
      rintro e v7 ⟨rfl, hb⟩
      have Hwv7 := Lib.hid (Hwv6.out.step hb)
      have Hbv7 := Lib.hid (Blk.below Hbv6.out hb (Blk.lt Hbv6.out))
      clear hb
      go_wp2_with (refine wpList_load_row rfl 41 (.tmp 10) rfl b1 rfl 41 cv (0, 0) _ Hbv7.out Try.underlying41 rfl HI74.out ?_)
      refine (H5.out v7).mono ?_
      rintro e v8 ⟨rfl, hb⟩
      have Hwv8 := Lib.hid (Hwv7.out.step hb)
      have Hbv8 := Lib.hid (Blk.below Hbv7.out hb (Blk.lt Hbv7.out))
      clear hb
      go_wp2_with (refine wpList_load_row rfl 41 (.tmp 10) rfl b1 rfl 41 cv (0, 0) _ Hbv8.out Try.underlying41 rfl HI74.out ?_)
      refine (H6.out v8).mono ?_
      rintro e v9 ⟨rfl, hb⟩
      have Hwv9 := Lib.hid (Hwv8.out.step hb)
      have Hbv9 := Lib.hid (Blk.below Hbv8.out hb (Blk.lt Hbv8.out))
      clear hb
      go_wp2_with fail
      refine (H10.out v9).mono ?_
      rintro e u2 ⟨rfl, rfl⟩
      go_wp2_with (refine wpList_load_row rfl 41 (.tmp 10) rfl b1 rfl 41 cv (0, 0) _ Hbv9.out Try.underlying41 rfl HI74.out ?_)
      refine (H7.out v9).mono ?_
      rintro e v10 ⟨rfl, hb⟩
      have Hwv10 := Lib.hid (Hwv9.out.step hb)
      have Hbv10 := Lib.hid (Blk.below Hbv9.out hb (Blk.lt Hbv9.out))
      clear hb
      go_wp2_with fail
      refine (H8.out v10 Hwv10.out.2).mono ?_
      rintro e v11 ⟨rfl, hb⟩
      have Hwv11 := Lib.hid (Hwv10.out.step hb)
      have Hbv11 := Lib.hid (Blk.below Hbv10.out hb (Blk.lt Hbv10.out))
      clear hb
      go_wp2_with fail
      refine (H9.out v11 Hwv11.out.2).mono ?_
      rintro e v12 ⟨rfl, hb⟩
      have Hwv12 := Lib.hid (Hwv11.out.step hb)
      have Hbv12 := Lib.hid (Blk.below Hbv11.out hb (Blk.lt Hbv11.out))
      clear hb
      go_wp2
      go_ret
      exact ⟨rfl, Hwv12.out.1⟩
    · rw [show decD d (1, (t : Int)) = d from if_neg (by rintro ⟨_, h⟩; exact h64 (by have h2 : (t : Int) < 64 := h; omega))] at D4
      have i1 : ¬ (t : Int) < 64 := by omega
      clear h64
      have H4 := Lib.hid D4
      have H6 := Lib.hid D6
      clear D4 D6 hv
      go_enter Try.func7, Try.ntmps7
      go_wp2_with fail
      refine HN.out.mono ?_
      rintro e w1 ⟨rfl, hc, hb⟩
      have Hw1 := Lib.hid (HS.new hc hb)
      clear hc hb
      rw [HGG.out] at Hw1 ⊢
      go_wp2_with fail
      refine (anchor_any g w1 Hw1.out.2).mono ?_
      rintro e w2 ⟨rfl, hb⟩
      have Hw2 := Lib.hid (Hw1.out.step hb)
      clear hb
      go_wp2_with fail
      refine (HCO.out w2).mono ?_
      rintro e w3 ⟨rfl, hb⟩
      have Hw3 := Lib.hid (Hw2.out.step hb)
      clear hb
      have hst := HST.out w3
      go_wp2_with fail
      clear hst hsz
      obtain ⟨b1, hb1⟩ : ∃ b1, w3.heap.size = b1 := ⟨_, rfl⟩
      obtain ⟨v4, hv4⟩ : ∃ v4, w3.alloc (.cells cv 41) = v4 := ⟨_, rfl⟩
      rw [hv4, hb1]
      have Hwv4 := Lib.hid (show HS w g v4 by rw [← hv4]; exact Hw3.out.step ((Below.refl _ _).alloc (Nat.le_refl _) _))
      have Hbv4 := Lib.hid (show Blk v4 b1 41 cv by rw [← hv4, ← hb1]; exact Blk.new w3 _ _)
      clear hv4 hb1
      refine (H1.out v4 Hwv4.out.2).mono ?_
      rintro e v5 ⟨rfl, hb⟩
      have Hwv5 := Lib.hid (Hwv4.out.step hb)
      have Hbv5 := Lib.hid (Blk.below Hbv4.out hb (Blk.lt Hbv4.out))
      clear hb
      go_wp2_with fail
      refine (H2.out v5 Hwv5.out.2).mono ?_
      rintro e u1 ⟨rfl, rfl⟩
      go_wp2_with (refine wpList_load_row rfl 41 (.tmp 10) rfl b1 rfl 41 cv (0, 0) _ Hbv5.out Try.underlying41 rfl HI74.out ?_)
      refine (H3.out v5).mono ?_
      rintro e v6 ⟨rfl, hb⟩
      have Hwv6 := Lib.hid (Hwv5.out.step hb)
      have Hbv6 := Lib.hid (Blk.below Hbv5.out hb (Blk.lt Hbv5.out))
      clear hb
      go_wp2_with fail
      refine (H4.out v6 Hwv6.out.2).mono ?_
      rintro e v7 ⟨rfl, hb⟩
      have Hwv7 := Lib.hid (Hwv6.out.step hb)
      have Hbv7 := Lib.hid (Blk.below Hbv6.out hb (Blk.lt Hbv6.out))
      clear hb
      go_wp2_with (refine wpList_load_row rfl 41 (.tmp 10) rfl b1 rfl 41 cv (0, 0) _ Hbv7.out Try.underlying41 rfl HI74.out ?_)
      refine (H5.out v7).mono ?_
      rintro e v8 ⟨rfl, hb⟩
      have Hwv8 := Lib.hid (Hwv7.out.step hb)
      have Hbv8 := Lib.hid (Blk.below Hbv7.out hb (Blk.lt Hbv7.out))
      clear hb
      go_wp2_with (refine wpList_load_row rfl 41 (.tmp 10) rfl b1 rfl 41 cv (0, 0) _ Hbv8.out Try.underlying41 rfl HI74.out ?_)
      refine (H6.out v8).mono ?_
      rintro e v9 ⟨rfl, hb⟩
      have Hwv9 := Lib.hid (Hwv8.out.step hb)
      have Hbv9 := Lib.hid (Blk.below Hbv8.out hb (Blk.lt Hbv8.out))
      clear hb
      go_wp2_with (refine wpList_load_row rfl 41 (.tmp 10) rfl b1 rfl 41 cv (0, 0) _ Hbv9.out Try.underlying41 rfl HI74.out ?_)
      refine (H7.out v9).mono ?_
      rintro e v10 ⟨rfl, hb⟩
      have Hwv10 := Lib.hid (Hwv9.out.step hb)
      have Hbv10 := Lib.hid (Blk.below Hbv9.out hb (Blk.lt Hbv9.out))
      clear hb
      go_wp2_with fail
      refine (H8.out v10 Hwv10.out.2).mono ?_
      rintro e v11 ⟨rfl, hb⟩
      have Hwv11 := Lib.hid (Hwv10.out.step hb)
      have Hbv11 := Lib.hid (Blk.below Hbv10.out hb (Blk.lt Hbv10.out))
      clear hb
      go_wp2_with fail
      refine (H9.out v11 Hwv11.out.2).mono ?_
      rintro e v12 ⟨rfl, hb⟩
      have Hwv12 := Lib.hid (Hwv11.out.step hb)
      have Hbv12 := Lib.hid (Blk.below Hbv11.out hb (Blk.lt Hbv11.out))
      clear hb
      go_wp2
      go_ret
      exact ⟨rfl, Hwv12.out.1⟩
end Go.Proofs.Ytbhonojfglhbeaa
