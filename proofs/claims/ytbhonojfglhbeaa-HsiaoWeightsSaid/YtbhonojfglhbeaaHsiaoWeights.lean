/- HsiaoWeights, walked: for every s the law returns true. -/
import Derived.Test.YtbhonojfglhbeaaHsR
namespace Go.Proofs.Ytbhonojfglhbeaa
open Go.RowKit

def hasC (s : Nat) : Nat → Bool
  | 0 => false
  | k + 1 => hasC s k || (col k == s)
theorem hasC_iff (s k : Nat) : hasC s k = true ↔ ∃ i, i < k ∧ col i = s := by
  induction k with
  | zero => simp [hasC]
  | succ k ih =>
    rw [hasC, Bool.or_eq_true, ih, beq_iff_eq]
    constructor
    · rintro (⟨i, h1, h2⟩ | h)
      · exact ⟨i, by omega, h2⟩
      · exact ⟨k, by omega, h⟩
    · rintro ⟨i, h1, h2⟩
      by_cases h : i = k
      · exact .inr (by rw [← h]; exact h2)
      · exact .inl ⟨i, by omega, h2⟩

set_option maxRecDepth 100000 in
set_option maxHeartbeats 4000000 in
theorem HsiaoWeights_walk (a0 : Int) (w : World) (w0 : (Lit.int .u8 a0).wf = true) :
    Calls Try.prog 5 #[.int .u8 a0] w fun e w' => e = .returned (.bool true) ∧ Below w.heap.size w w' := by
  obtain ⟨s, rfl, ls⟩ := lit_u8h w0
  clear w0
  obtain ⟨g, hg⟩ : ∃ g, w.heap.size = g := ⟨_, rfl⟩
  have HN := Lib.hid (new_any w)
  have HGG := Lib.hid hg
  clear hg
  have CL := fun W hW => classify_any g s ls W hW
  have RW := fun W => refWeight (s : Int) s rfl (by omega) W
  have hpl := pc_le s
  have hmem := hasC_iff s 74
  obtain ⟨n, hn⟩ : ∃ n, pc s = n := ⟨_, rfl⟩
  rw [hn] at RW hpl
  have HRW := Lib.hid RW
  clear RW
  rcases verdict_cases ls with ⟨rfl, hv⟩ | ⟨h0, hat, hv⟩ | ⟨h72, hv⟩ | ⟨h73, hv⟩ | ⟨t, ht, hct, hv⟩
  · rw [hv] at CL
    have HCL := Lib.hid CL
    have HONE := Lib.hid (show hasC 0 74 = false by
      cases h : hasC 0 74 with
      | false => rfl
      | true => obtain ⟨i, h1, h2⟩ := hmem.1 h; have := col_pos h1; omega)
    clear CL hv hmem hn ls
    rw [show ((0 : Nat) : Int) = 0 from rfl] at HCL HRW ⊢
    go_enter Try.func5, Try.ntmps5
    go_wp2_with fail
    refine HN.out.mono ?_
    rintro e w1 ⟨rfl, hc, hb⟩
    have Hw1 := Lib.hid (HS.new hc hb)
    clear hc hb
    rw [HGG.out] at Hw1 ⊢
    go_wp2_with fail
    refine (anchor_any g w1 Hw1.out.2).mono ?_
    rintro e w2 ⟨rfl, hb⟩
    have Hw2 := Lib.hid (Hw1.out.step hb)
    clear hb
    go_wp2_with fail
    refine (HCL.out w2 Hw2.out.2).mono ?_
    rintro e w3 ⟨rfl, rfl⟩
    go_wp2_with fail
    refine (HRW.out w2).mono ?_
    rintro e w3 ⟨rfl, rfl⟩
    go_wp2
    go_loop [7, 22] (fun o i => ∃ k : Nat, k ≤ 74 ∧ i = .int .i64 k ∧ o = .bool (hasC 0 k)) (fun _ i => 74 - (intOf i).toNat)
    case atStart => exact ⟨0, by omega, rfl, rfl⟩
    case round =>
      obtain ⟨k, hk, rfl, rfl⟩ := hrel
      by_cases hlt : k < 74
      · have hst : hasC 0 (k + 1) = (hasC 0 k || (col k == 0)) := rfl
        have RC := refColumn_any (k : Int) (by omega) (by omega) w2
        rw [show colI (k : Int) = col k by unfold colI; rw [if_pos (by omega)]; rfl] at RC
        have HRC := Lib.hid RC
        cases hb : hasC 0 k with
        | true =>
          rw [hb, Bool.true_or] at hst
          have HST := Lib.hid hst
          clear hst hb RC
          go_wp2
          go_round
          case rel => exact ⟨k + 1, by omega, by go_num, by rw [HST.out]⟩
          case measure => simp [intOf]; omega
        | false =>
          rw [hb, Bool.false_or] at hst
          obtain ⟨c, hc⟩ : ∃ c, col k = c := ⟨_, rfl⟩
          rw [hc] at hst RC
          have HRC := Lib.hid RC
          have HST := Lib.hid hst
          clear hst hb RC hc
          go_wp2_with fail
          refine HRC.out.mono ?_
          rintro e w' ⟨rfl, rfl⟩
          go_wp2
          go_round
          case rel =>
            refine ⟨k + 1, by omega, by go_num, ?_⟩
            rw [HST.out]
            congr 1
            by_cases h : c = 0
            · subst h; simp
            · have h1 : (c == 0) = false := by rw [beq_eq_false_iff_ne]; exact h
              have h2 : ((c : Int) == 0) = false := by rw [beq_eq_false_iff_ne]; omega
              first | rw [h1, h2] | (rw [h1]; simp; omega) | simp [h]
          case measure => simp [intOf]; omega
      · obtain rfl : k = 74 := by omega
        rw [show ((74 : Nat) : Int) = 74 from rfl]
        have hone := HONE.out
        rw [hone]
        clear hone
        go_wp2
        go_ret
        exact ⟨rfl, Hw2.out.1⟩
  · rw [hv] at CL
    have HCL := Lib.hid CL
    have HONE := Lib.hid (show hasC s 74 = false by
      cases h : hasC s 74 with
      | false => rfl
      | true => obtain ⟨i, h1, h2⟩ := hmem.1 h; rw [← h2, at_col h1] at hat; omega)
    have q0 : ((s : Int) == 0) = false := by rw [beq_eq_false_iff_ne]; omega
    clear CL hv hmem hn hat h0
    by_cases hodd : n % 2 = 1
    · have q1 : ((n : Int) % 2 == 1) = true := by rw [beq_iff_eq]; omega
      clear hodd
      go_enter Try.func5, Try.ntmps5
      go_wp2_with fail
      refine HN.out.mono ?_
      rintro e w1 ⟨rfl, hc, hb⟩
      have Hw1 := Lib.hid (HS.new hc hb)
      clear hc hb
      rw [HGG.out] at Hw1 ⊢
      go_wp2_with fail
      refine (anchor_any g w1 Hw1.out.2).mono ?_
      rintro e w2 ⟨rfl, hb⟩
      have Hw2 := Lib.hid (Hw1.out.step hb)
      clear hb
      go_wp2_with fail
      refine (HCL.out w2 Hw2.out.2).mono ?_
      rintro e w3 ⟨rfl, rfl⟩
      go_wp2_with fail
      refine (HRW.out w2).mono ?_
      rintro e w3 ⟨rfl, rfl⟩
      go_wp2
      go_loop [7, 22] (fun o i => ∃ k : Nat, k ≤ 74 ∧ i = .int .i64 k ∧ o = .bool (hasC s k)) (fun _ i => 74 - (intOf i).toNat)
      case atStart => exact ⟨0, by omega, rfl, rfl⟩
      case round =>
        obtain ⟨k, hk, rfl, rfl⟩ := hrel
        by_cases hlt : k < 74
        · have hst : hasC s (k + 1) = (hasC s k || (col k == s)) := rfl
          have RC := refColumn_any (k : Int) (by omega) (by omega) w2
          rw [show colI (k : Int) = col k by unfold colI; rw [if_pos (by omega)]; rfl] at RC
          have HRC := Lib.hid RC
          cases hb : hasC s k with
          | true =>
            rw [hb, Bool.true_or] at hst
            have HST := Lib.hid hst
            clear hst hb RC
            go_wp2
            go_round
            case rel => exact ⟨k + 1, by omega, by go_num, by rw [HST.out]⟩
            case measure => simp [intOf]; omega
          | false =>
            rw [hb, Bool.false_or] at hst
            obtain ⟨c, hc⟩ : ∃ c, col k = c := ⟨_, rfl⟩
            rw [hc] at hst RC
            have HRC := Lib.hid RC
            have HST := Lib.hid hst
            clear hst hb RC hc
            go_wp2_with fail
            refine HRC.out.mono ?_
            rintro e w' ⟨rfl, rfl⟩
            go_wp2
            go_round
            case rel =>
              refine ⟨k + 1, by omega, by go_num, ?_⟩
              rw [HST.out]
              congr 1
              by_cases h : c = s
              · subst h; simp
              · have h1 : (c == s) = false := by rw [beq_eq_false_iff_ne]; exact h
                have h2 : ((c : Int) == (s : Int)) = false := by rw [beq_eq_false_iff_ne]; omega
                first | rw [h1, h2] | (rw [h1]; simp; omega) | simp [h]
            case measure => simp [intOf]; omega
        · obtain rfl : k = 74 := by omega
          rw [show ((74 : Nat) : Int) = 74 from rfl]
          have hone := HONE.out
          rw [hone]
          clear hone
          go_wp2
          go_ret
          exact ⟨rfl, Hw2.out.1⟩
    · have q1 : ((n : Int) % 2 == 1) = false := by rw [beq_eq_false_iff_ne]; omega
      clear hodd
      go_enter Try.func5, Try.ntmps5
      go_wp2_with fail
      refine HN.out.mono ?_
      rintro e w1 ⟨rfl, hc, hb⟩
      have Hw1 := Lib.hid (HS.new hc hb)
      clear hc hb
      rw [HGG.out] at Hw1 ⊢
      go_wp2_with fail
      refine (anchor_any g w1 Hw1.out.2).mono ?_
      rintro e w2 ⟨rfl, hb⟩
      have Hw2 := Lib.hid (Hw1.out.step hb)
      clear hb
      go_wp2_with fail
      refine (HCL.out w2 Hw2.out.2).mono ?_
      rintro e w3 ⟨rfl, rfl⟩
      go_wp2_with fail
      refine (HRW.out w2).mono ?_
      rintro e w3 ⟨rfl, rfl⟩
      go_wp2
      go_loop [7, 22] (fun o i => ∃ k : Nat, k ≤ 74 ∧ i = .int .i64 k ∧ o = .bool (hasC s k)) (fun _ i => 74 - (intOf i).toNat)
      case atStart => exact ⟨0, by omega, rfl, rfl⟩
      case round =>
        obtain ⟨k, hk, rfl, rfl⟩ := hrel
        by_cases hlt : k < 74
        · have hst : hasC s (k + 1) = (hasC s k || (col k == s)) := rfl
          have RC := refColumn_any (k : Int) (by omega) (by omega) w2
          rw [show colI (k : Int) = col k by unfold colI; rw [if_pos (by omega)]; rfl] at RC
          have HRC := Lib.hid RC
          cases hb : hasC s k with
          | true =>
            rw [hb, Bool.true_or] at hst
            have HST := Lib.hid hst
            clear hst hb RC
            go_wp2
            go_round
            case rel => exact ⟨k + 1, by omega, by go_num, by rw [HST.out]⟩
            case measure => simp [intOf]; omega
          | false =>
            rw [hb, Bool.false_or] at hst
            obtain ⟨c, hc⟩ : ∃ c, col k = c := ⟨_, rfl⟩
            rw [hc] at hst RC
            have HRC := Lib.hid RC
            have HST := Lib.hid hst
            clear hst hb RC hc
            go_wp2_with fail
            refine HRC.out.mono ?_
            rintro e w' ⟨rfl, rfl⟩
            go_wp2
            go_round
            case rel =>
              refine ⟨k + 1, by omega, by go_num, ?_⟩
              rw [HST.out]
              congr 1
              by_cases h : c = s
              · subst h; simp
              · have h1 : (c == s) = false := by rw [beq_eq_false_iff_ne]; exact h
                have h2 : ((c : Int) == (s : Int)) = false := by rw [beq_eq_false_iff_ne]; omega
                first | rw [h1, h2] | (rw [h1]; simp; omega) | simp [h]
            case measure => simp [intOf]; omega
        · obtain rfl : k = 74 := by omega
          rw [show ((74 : Nat) : Int) = 74 from rfl]
          have hone := HONE.out
          rw [hone]
          clear hone
          go_wp2
          go_ret
          exact ⟨rfl, Hw2.out.1⟩
  · have hodd := col_odd (i := 72) (by omega)
    rw [← h72, hn] at hodd
    have hp := col_pos (i := 72) (by omega)
    rw [← h72] at hp
    rw [hv] at CL
    have HCL := Lib.hid CL
    have HONE := Lib.hid (show hasC s 74 = true from hmem.2 ⟨72, by omega, h72.symm⟩)
    have q0 : ((s : Int) == 0) = false := by rw [beq_eq_false_iff_ne]; omega
    have q1 : ((n : Int) % 2 == 1) = true := by rw [beq_iff_eq]; omega
    clear CL hv hmem hn h72 hodd hp
    go_enter Try.func5, Try.ntmps5
    go_wp2_with fail
    refine HN.out.mono ?_
    rintro e w1 ⟨rfl, hc, hb⟩
    have Hw1 := Lib.hid (HS.new hc hb)
    clear hc hb
    rw [HGG.out] at Hw1 ⊢
    go_wp2_with fail
    refine (anchor_any g w1 Hw1.out.2).mono ?_
    rintro e w2 ⟨rfl, hb⟩
    have Hw2 := Lib.hid (Hw1.out.step hb)
    clear hb
    go_wp2_with fail
    refine (HCL.out w2 Hw2.out.2).mono ?_
    rintro e w3 ⟨rfl, rfl⟩
    go_wp2_with fail
    refine (HRW.out w2).mono ?_
    rintro e w3 ⟨rfl, rfl⟩
    go_wp2
    go_loop [7, 22] (fun o i => ∃ k : Nat, k ≤ 74 ∧ i = .int .i64 k ∧ o = .bool (hasC s k)) (fun _ i => 74 - (intOf i).toNat)
    case atStart => exact ⟨0, by omega, rfl, rfl⟩
    case round =>
      obtain ⟨k, hk, rfl, rfl⟩ := hrel
      by_cases hlt : k < 74
      · have hst : hasC s (k + 1) = (hasC s k || (col k == s)) := rfl
        have RC := refColumn_any (k : Int) (by omega) (by omega) w2
        rw [show colI (k : Int) = col k by unfold colI; rw [if_pos (by omega)]; rfl] at RC
        have HRC := Lib.hid RC
        cases hb : hasC s k with
        | true =>
          rw [hb, Bool.true_or] at hst
          have HST := Lib.hid hst
          clear hst hb RC
          go_wp2
          go_round
          case rel => exact ⟨k + 1, by omega, by go_num, by rw [HST.out]⟩
          case measure => simp [intOf]; omega
        | false =>
          rw [hb, Bool.false_or] at hst
          obtain ⟨c, hc⟩ : ∃ c, col k = c := ⟨_, rfl⟩
          rw [hc] at hst RC
          have HRC := Lib.hid RC
          have HST := Lib.hid hst
          clear hst hb RC hc
          go_wp2_with fail
          refine HRC.out.mono ?_
          rintro e w' ⟨rfl, rfl⟩
          go_wp2
          go_round
          case rel =>
            refine ⟨k + 1, by omega, by go_num, ?_⟩
            rw [HST.out]
            congr 1
            by_cases h : c = s
            · subst h; simp
            · have h1 : (c == s) = false := by rw [beq_eq_false_iff_ne]; exact h
              have h2 : ((c : Int) == (s : Int)) = false := by rw [beq_eq_false_iff_ne]; omega
              first | rw [h1, h2] | (rw [h1]; simp; omega) | simp [h]
          case measure => simp [intOf]; omega
      · obtain rfl : k = 74 := by omega
        rw [show ((74 : Nat) : Int) = 74 from rfl]
        have hone := HONE.out
        rw [hone]
        clear hone
        go_wp2
        go_ret
        exact ⟨rfl, Hw2.out.1⟩
  · have hodd := col_odd (i := 73) (by omega)
    rw [← h73, hn] at hodd
    have hp := col_pos (i := 73) (by omega)
    rw [← h73] at hp
    rw [hv] at CL
    have HCL := Lib.hid CL
    have HONE := Lib.hid (show hasC s 74 = true from hmem.2 ⟨73, by omega, h73.symm⟩)
    have q0 : ((s : Int) == 0) = false := by rw [beq_eq_false_iff_ne]; omega
    have q1 : ((n : Int) % 2 == 1) = true := by rw [beq_iff_eq]; omega
    clear CL hv hmem hn h73 hodd hp
    go_enter Try.func5, Try.ntmps5
    go_wp2_with fail
    refine HN.out.mono ?_
    rintro e w1 ⟨rfl, hc, hb⟩
    have Hw1 := Lib.hid (HS.new hc hb)
    clear hc hb
    rw [HGG.out] at Hw1 ⊢
    go_wp2_with fail
    refine (anchor_any g w1 Hw1.out.2).mono ?_
    rintro e w2 ⟨rfl, hb⟩
    have Hw2 := Lib.hid (Hw1.out.step hb)
    clear hb
    go_wp2_with fail
    refine (HCL.out w2 Hw2.out.2).mono ?_
    rintro e w3 ⟨rfl, rfl⟩
    go_wp2_with fail
    refine (HRW.out w2).mono ?_
    rintro e w3 ⟨rfl, rfl⟩
    go_wp2
    go_loop [7, 22] (fun o i => ∃ k : Nat, k ≤ 74 ∧ i = .int .i64 k ∧ o = .bool (hasC s k)) (fun _ i => 74 - (intOf i).toNat)
    case atStart => exact ⟨0, by omega, rfl, rfl⟩
    case round =>
      obtain ⟨k, hk, rfl, rfl⟩ := hrel
      by_cases hlt : k < 74
      · have hst : hasC s (k + 1) = (hasC s k || (col k == s)) := rfl
        have RC := refColumn_any (k : Int) (by omega) (by omega) w2
        rw [show colI (k : Int) = col k by unfold colI; rw [if_pos (by omega)]; rfl] at RC
        have HRC := Lib.hid RC
        cases hb : hasC s k with
        | true =>
          rw [hb, Bool.true_or] at hst
          have HST := Lib.hid hst
          clear hst hb RC
          go_wp2
          go_round
          case rel => exact ⟨k + 1, by omega, by go_num, by rw [HST.out]⟩
          case measure => simp [intOf]; omega
        | false =>
          rw [hb, Bool.false_or] at hst
          obtain ⟨c, hc⟩ : ∃ c, col k = c := ⟨_, rfl⟩
          rw [hc] at hst RC
          have HRC := Lib.hid RC
          have HST := Lib.hid hst
          clear hst hb RC hc
          go_wp2_with fail
          refine HRC.out.mono ?_
          rintro e w' ⟨rfl, rfl⟩
          go_wp2
          go_round
          case rel =>
            refine ⟨k + 1, by omega, by go_num, ?_⟩
            rw [HST.out]
            congr 1
            by_cases h : c = s
            · subst h; simp
            · have h1 : (c == s) = false := by rw [beq_eq_false_iff_ne]; exact h
              have h2 : ((c : Int) == (s : Int)) = false := by rw [beq_eq_false_iff_ne]; omega
              first | rw [h1, h2] | (rw [h1]; simp; omega) | simp [h]
          case measure => simp [intOf]; omega
      · obtain rfl : k = 74 := by omega
        rw [show ((74 : Nat) : Int) = 74 from rfl]
        have hone := HONE.out
        rw [hone]
        clear hone
        go_wp2
        go_ret
        exact ⟨rfl, Hw2.out.1⟩
  · have hodd := col_odd (i := t) (by omega)
    rw [← hct, hn] at hodd
    have hp := col_pos (i := t) (by omega)
    rw [← hct] at hp
    rw [hv] at CL
    have HCL := Lib.hid CL
    have HONE := Lib.hid (show hasC s 74 = true from hmem.2 ⟨t, by omega, hct.symm⟩)
    have q0 : ((s : Int) == 0) = false := by rw [beq_eq_false_iff_ne]; omega
    have q1 : ((n : Int) % 2 == 1) = true := by rw [beq_iff_eq]; omega
    clear CL hv hmem hn hct hodd hp
    go_enter Try.func5, Try.ntmps5
    go_wp2_with fail
    refine HN.out.mono ?_
    rintro e w1 ⟨rfl, hc, hb⟩
    have Hw1 := Lib.hid (HS.new hc hb)
    clear hc hb
    rw [HGG.out] at Hw1 ⊢
    go_wp2_with fail
    refine (anchor_any g w1 Hw1.out.2).mono ?_
    rintro e w2 ⟨rfl, hb⟩
    have Hw2 := Lib.hid (Hw1.out.step hb)
    clear hb
    go_wp2_with fail
    refine (HCL.out w2 Hw2.out.2).mono ?_
    rintro e w3 ⟨rfl, rfl⟩
    go_wp2_with fail
    refine (HRW.out w2).mono ?_
    rintro e w3 ⟨rfl, rfl⟩
    go_wp2
    go_loop [7, 22] (fun o i => ∃ k : Nat, k ≤ 74 ∧ i = .int .i64 k ∧ o = .bool (hasC s k)) (fun _ i => 74 - (intOf i).toNat)
    case atStart => exact ⟨0, by omega, rfl, rfl⟩
    case round =>
      obtain ⟨k, hk, rfl, rfl⟩ := hrel
      by_cases hlt : k < 74
      · have hst : hasC s (k + 1) = (hasC s k || (col k == s)) := rfl
        have RC := refColumn_any (k : Int) (by omega) (by omega) w2
        rw [show colI (k : Int) = col k by unfold colI; rw [if_pos (by omega)]; rfl] at RC
        have HRC := Lib.hid RC
        cases hb : hasC s k with
        | true =>
          rw [hb, Bool.true_or] at hst
          have HST := Lib.hid hst
          clear hst hb RC
          go_wp2
          go_round
          case rel => exact ⟨k + 1, by omega, by go_num, by rw [HST.out]⟩
          case measure => simp [intOf]; omega
        | false =>
          rw [hb, Bool.false_or] at hst
          obtain ⟨c, hc⟩ : ∃ c, col k = c := ⟨_, rfl⟩
          rw [hc] at hst RC
          have HRC := Lib.hid RC
          have HST := Lib.hid hst
          clear hst hb RC hc
          go_wp2_with fail
          refine HRC.out.mono ?_
          rintro e w' ⟨rfl, rfl⟩
          go_wp2
          go_round
          case rel =>
            refine ⟨k + 1, by omega, by go_num, ?_⟩
            rw [HST.out]
            congr 1
            by_cases h : c = s
            · subst h; simp
            · have h1 : (c == s) = false := by rw [beq_eq_false_iff_ne]; exact h
              have h2 : ((c : Int) == (s : Int)) = false := by rw [beq_eq_false_iff_ne]; omega
              first | rw [h1, h2] | (rw [h1]; simp; omega) | simp [h]
          case measure => simp [intOf]; omega
      · obtain rfl : k = 74 := by omega
        rw [show ((74 : Nat) : Int) = 74 from rfl]
        have hone := HONE.out
        rw [hone]
        clear hone
        go_wp2
        go_ret
        exact ⟨rfl, Hw2.out.1⟩
end Go.Proofs.Ytbhonojfglhbeaa
