/- hsiao's syndromes and decoding, and the statements' words that turn a bit: walks. -/
import Derived.Test.YtbhonojfglhbeaaHsC
import Derived.Test.YtbhonojfglhbeaaHsN
namespace Go.Proofs.Ytbhonojfglhbeaa
open Go.RowKit

/-- The code is there, and nothing that lay at the beginning has changed. -/
def HS (w : World) (g : Nat) (W : World) : Prop := Below w.heap.size w W ∧ CodeAt W g
theorem HS.step {w W W' : World} {g : Nat} (h : HS w g W) (hb : Below W.heap.size W W') : HS w g W' := ⟨h.1.trans (hb.mono h.1.size), Blk.below h.2 hb (Blk.lt h.2)⟩

theorem syndrome_any (g : Nat) (d k : Nat) (ld : d < 18446744073709551616) (lk : k < 256) (a p : Int) (w : World) (hg : CodeAt w g) :
    Calls Try.prog 13 #[.pointer (some ⟨g, 0, none⟩), .int .u64 (d : Int), .int .u8 (k : Int), .int .i64 a, .int .i64 p] w fun e w' => e = .returned (.int .u8 ((chk d (low a) (low p) ^^^ k : Nat) : Int)) ∧ Below w.heap.size w w' := by
  have CC := Lib.hid (check_any g d ld a p w hg)
  have lc := chk_lt d (low a) (low p)
  obtain ⟨c, hc⟩ : ∃ c, chk d (low a) (low p) = c := ⟨_, rfl⟩
  rw [hc] at CC lc ⊢
  have hx := u8_xorN c k lc lk
  clear hc hg
  go_enter Try.func13, Try.ntmps13
  go_wp2_with fail
  refine CC.out.mono ?_
  rintro e w1 ⟨rfl, hb⟩
  go_wp2
  go_ret
  exact ⟨rfl, hb⟩

theorem verdict_cases {s : Nat} (hs : s < 256) : (s = 0 ∧ verdict s = (0, -1)) ∨ (s ≠ 0 ∧ atS s = -1 ∧ verdict s = (4, -1)) ∨ (s = col 72 ∧ verdict s = (3, -1)) ∨ (s = col 73 ∧ verdict s = (2, -1)) ∨ ∃ t : Nat, t < 72 ∧ s = col t ∧ verdict s = (1, (t : Int)) := by
  by_cases h0 : s = 0
  · exact .inl ⟨h0, by unfold verdict; rw [if_pos h0]⟩
  · rcases at_all hs with h | ⟨h1, h2, h3⟩
    · exact .inr (.inl ⟨h0, h, by unfold verdict; rw [if_neg h0, if_pos h]⟩)
    · obtain ⟨t, ht⟩ := Int.eq_ofNat_of_zero_le h1
      rw [ht] at h2 h3
      have e3 : col t = s := h3
      by_cases h72 : t = 72
      · subst h72
        exact .inr (.inr (.inl ⟨e3.symm, by unfold verdict; rw [if_neg h0, ht, if_neg (by decide), if_pos (by decide)]⟩))
      · by_cases h73 : t = 73
        · subst h73
          exact .inr (.inr (.inr (.inl ⟨e3.symm, by unfold verdict; rw [if_neg h0, ht, if_neg (by decide), if_neg (by decide), if_pos (by decide)]⟩)))
        · exact .inr (.inr (.inr (.inr ⟨t, by omega, e3.symm, by unfold verdict; rw [if_neg h0, ht, if_neg (by omega), if_neg (by omega), if_neg (by omega)]⟩)))

def decD (d : Nat) (v : Nat × Int) : Nat := if v.1 = 1 ∧ v.2 < 64 then d ^^^ 2 ^ v.2.toNat else d
theorem u64_shlH {t : Nat} (h : t < 64) : IntKind.u64.wrap ((2 : Int) ^ t) = ((2 ^ t : Nat) : Int) := by
  have h2 : 2 ^ t < 18446744073709551616 := (Nat.pow_lt_pow_right (by decide) h : 2 ^ t < 2 ^ 64)
  rw [show ((2 : Int) ^ t) = ((2 ^ t : Nat) : Int) by simp]
  exact (fun P h => IntWalk.u64_in _ (by omega) : ∀ P : Nat, P < 18446744073709551616 → IntKind.u64.wrap (P : Int) = P) _ h2
set_option maxRecDepth 100000 in
theorem decode_any (g : Nat) (d k : Nat) (ld : d < 18446744073709551616) (lk : k < 256) (a : Int) (w : World) (hg : CodeAt w g) :
    Calls Try.prog 22 #[.pointer (some ⟨g, 0, none⟩), .int .u64 (d : Int), .int .u8 (k : Int), .int .i64 a] w fun e w' =>
      e = .returned (.tuple #[.int .u64 (decD d (verdict (chk d (low a) 0 ^^^ k)) : Nat), .int .i64 ((verdict (chk d (low a) 0 ^^^ k)).1 : Nat), .int .i64 (verdict (chk d (low a) 0 ^^^ k)).2]) ∧ Below w.heap.size w w' := by
  have CC := syndrome_any g d k ld lk a 0 w hg
  have hl0 : low 0 = 0 := rfl
  rw [hl0] at CC
  have ls : chk d (low a) 0 ^^^ k < 256 := Nat.xor_lt_two_pow (n := 8) (chk_lt _ _ _) lk
  obtain ⟨s, hs⟩ : ∃ s, chk d (low a) 0 ^^^ k = s := ⟨_, rfl⟩
  rw [hs] at CC ls ⊢
  have HCC := Lib.hid CC
  have HG := Lib.hid hg
  clear CC hl0 hs hg
  have CL := fun W hW => classify_any g s ls W hW
  rcases verdict_cases ls with ⟨-, hv⟩ | ⟨-, -, hv⟩ | ⟨-, hv⟩ | ⟨-, hv⟩ | ⟨t, ht, -, hv⟩
  case' inr.inr.inr.inr =>
    rw [hv] at CL
    have HV := Lib.hid hv
    have HCL := Lib.hid CL
    clear hv CL
    by_cases h64 : t < 64
    · have hp := u64_shlH h64
      have h2 : 2 ^ t < 18446744073709551616 := (Nat.pow_lt_pow_right (by decide) h64 : 2 ^ t < 2 ^ 64)
      obtain ⟨P, hP⟩ : ∃ P, 2 ^ t = P := ⟨_, rfl⟩
      have HD := Lib.hid (show decD d (1, (t : Int)) = d ^^^ P by unfold decD; rw [if_pos ⟨rfl, by show (t : Int) < 64; omega⟩, ← hP]; rfl)
      rw [hP] at hp h2
      have hx := u64_xor_nat d P ld h2
      have HPP := Lib.hid hP
      clear hP
      go_enter Try.func22, Try.ntmps22
      go_wp2_with fail
      refine HCC.out.mono ?_
      rintro e w1 ⟨rfl, hb⟩
      have H2 := Lib.hid hb
      clear hb
      go_wp2_with fail
      refine (HCL.out w1 (Blk.below HG.out H2.out (Blk.lt HG.out))).mono ?_
      rintro e w2 ⟨rfl, rfl⟩
      go_wp2
      refine bodyPost_ret (v := .tuple #[.int .u64 ((d ^^^ P : Nat) : Int), .int .i64 1, .int .i64 (t : Int)]) (by simp [results, Try.results22, go_sem]) rfl ⟨?_, H2.out⟩
      rw [HV.out, HD.out]; rfl
    · have HD := Lib.hid (show decD d (1, (t : Int)) = d by unfold decD; rw [if_neg]; rintro ⟨_, h⟩; exact h64 (by have h2 : (t : Int) < 64 := h; omega))
      have i1 : ¬ (t : Int) < 64 := by omega
      go_enter Try.func22, Try.ntmps22
      go_wp2_with fail
      refine HCC.out.mono ?_
      rintro e w1 ⟨rfl, hb⟩
      have H2 := Lib.hid hb
      clear hb
      go_wp2_with fail
      refine (HCL.out w1 (Blk.below HG.out H2.out (Blk.lt HG.out))).mono ?_
      rintro e w2 ⟨rfl, rfl⟩
      go_wp2
      refine bodyPost_ret (v := .tuple #[.int .u64 (d : Int), .int .i64 1, .int .i64 (t : Int)]) (by simp [results, Try.results22, go_sem]) rfl ⟨?_, H2.out⟩
      rw [HV.out, HD.out]; rfl
  all_goals
    rw [hv] at CL
    have HV := Lib.hid hv
    have HCL := Lib.hid CL
    clear hv CL
    go_enter Try.func22, Try.ntmps22
    go_wp2_with fail
    refine HCC.out.mono ?_
    rintro e w1 ⟨rfl, hb⟩
    have H2 := Lib.hid hb
    clear hb
    go_wp2_with fail
    refine (HCL.out w1 (Blk.below HG.out H2.out (Blk.lt HG.out))).mono ?_
    rintro e w2 ⟨rfl, rfl⟩
    go_wp2
  · refine bodyPost_ret (v := .tuple #[.int .u64 (d : Int), .int .i64 0, .int .i64 (-1)]) (by simp [results, Try.results22, go_sem]) rfl ⟨?_, H2.out⟩
    rw [HV.out]; rfl
  · refine bodyPost_ret (v := .tuple #[.int .u64 (d : Int), .int .i64 4, .int .i64 (-1)]) (by simp [results, Try.results22, go_sem]) rfl ⟨?_, H2.out⟩
    rw [HV.out]; rfl
  · refine bodyPost_ret (v := .tuple #[.int .u64 (d : Int), .int .i64 3, .int .i64 (-1)]) (by simp [results, Try.results22, go_sem]) rfl ⟨?_, H2.out⟩
    rw [HV.out]; rfl
  · refine bodyPost_ret (v := .tuple #[.int .u64 (d : Int), .int .i64 2, .int .i64 (-1)]) (by simp [results, Try.results22, go_sem]) rfl ⟨?_, H2.out⟩
    rw [HV.out]; rfl
end Go.Proofs.Ytbhonojfglhbeaa
