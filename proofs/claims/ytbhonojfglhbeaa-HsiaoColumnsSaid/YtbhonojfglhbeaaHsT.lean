/- The words of the statements of layer 4: its anchor, and 'turned'. Walks. -/
import Derived.Test.YtbhonojfglhbeaaHsD
namespace Go.Proofs.Ytbhonojfglhbeaa
open Go.RowKit

def xorI (a b : Int) : Int := bits .xor .i64 a b
theorem low_bv (a : Int) : (BitVec.ofInt 64 a).toNat % 2 = low a := by rw [BitVec.toNat_ofInt]; unfold low; omega
theorem low_wrap (N : Nat) : low (IntKind.i64.wrap (N : Int)) = N % 2 := by rw [IntKind.wrap_i64]; unfold low; omega
theorem low_sum {x y : Nat} (hx : x < 2) (hy : y < 2) : x ^^^ y = (x + y) % 2 := by
  have h1 : x = 0 ∨ x = 1 := by omega
  have h2 : y = 0 ∨ y = 1 := by omega
  rcases h1 with rfl | rfl <;> rcases h2 with rfl | rfl <;> rfl
theorem xorI_eq (a b : Int) : xorI a b = IntKind.i64.wrap (((BitVec.ofInt 64 a).toNat ^^^ (BitVec.ofInt 64 b).toNat : Nat) : Int) := by
  have h : xorI a b = IntKind.i64.wrap ((BitVec.ofInt 64 a ^^^ BitVec.ofInt 64 b).toNat : Int) := rfl
  rw [h, BitVec.toNat_xor]
theorem low_xorI (a b : Int) : low (xorI a b) = low a ^^^ low b := by
  rw [xorI_eq, low_wrap, xor_odd, low_bv, low_bv, low_sum (low_lt a) (low_lt b)]
theorem xorI_bd (a b : Int) : -9223372036854775808 ≤ xorI a b ∧ xorI a b ≤ 9223372036854775807 := by
  rw [xorI_eq, IntKind.wrap_i64]
  omega

theorem anchor_any (g : Nat) (w : World) (hg : CodeAt w g) :
    Calls Try.prog 11 #[.pointer (some ⟨g, 0, none⟩)] w fun e w' => e = .returned (.bool true) ∧ Below w.heap.size w w' := by
  have CC := check_any g 1 (by omega) 0 0 w hg
  have h7 : chk 1 (low 0) (low 0) = 7 := by
    have h1 : cs (2 ^ 0) = col 0 := cs_pow (by omega)
    have h2 : col 0 = 7 := by unfold col; rw [hcols_eq]; rfl
    unfold chk
    rw [show (1 : Nat) = 2 ^ 0 from rfl, h1, h2]
    rfl
  rw [h7] at CC
  have HCC := Lib.hid CC
  have HG := Lib.hid hg
  have CL := fun W hW => column_any g 64 (by omega) (by omega) W hW
  have h64 : colI 64 = 1 := by
    have h2 : col 64 = 1 := by unfold col; rw [hcols_eq]; rfl
    exact h2
  rw [h64] at CL
  have HCL := Lib.hid CL
  clear CC CL h7 h64 hg
  go_enter Try.func11, Try.ntmps11
  go_wp2_with fail
  refine HCC.out.mono ?_
  rintro e w1 ⟨rfl, hb⟩
  have H2 := Lib.hid hb
  clear hb
  go_wp2_with fail
  refine (HCL.out w1 (Blk.below HG.out H2.out (Blk.lt HG.out))).mono ?_
  rintro e w2 ⟨rfl, rfl⟩
  go_wp2
  go_ret
  exact ⟨rfl, H2.out⟩

/-- What 'turned' hands back. -/
def tD (d i : Nat) : Nat := if i < 64 then d ^^^ 2 ^ i else d
def tK (k i : Nat) : Nat := if 64 ≤ i ∧ i < 72 then k ^^^ 2 ^ (i - 64) else k
def tA (a : Int) (i : Nat) : Int := if i = 72 then xorI a 1 else a
def tP (p : Int) (i : Nat) : Int := if i = 73 then xorI p 1 else p
theorem tD_lt {d : Nat} (i : Nat) (h : d < 18446744073709551616) : tD d i < 18446744073709551616 := by
  unfold tD
  split
  · exact Nat.xor_lt_two_pow (n := 64) h (Nat.pow_lt_pow_right (by decide) (by assumption))
  · exact h
theorem tK_lt {k : Nat} (i : Nat) (h : k < 256) : tK k i < 256 := by
  unfold tK
  split
  · exact Nat.xor_lt_two_pow (n := 8) h (Nat.pow_lt_pow_right (by decide) (by omega))
  · exact h
theorem xor_mid (a b c d : Nat) : (a ^^^ b) ^^^ (c ^^^ d) = (a ^^^ c) ^^^ (b ^^^ d) := by
  simp only [Nat.xor_assoc, nxl]
theorem chk_d (d e x y : Nat) : chk (d ^^^ e) x y = chk d x y ^^^ cs e := by
  unfold chk
  rw [cs_xor]
  simp only [Nat.xor_assoc]
  rw [nxl (cs e), Nat.xor_comm (cs e)]
/-- A bit that is turned adds its column. -/
theorem syn_turn (d k : Nat) (a p : Int) (i : Nat) (hi : i < 74) : chk (tD d i) (low (tA a i)) (low (tP p i)) ^^^ tK k i = (chk d (low a) (low p) ^^^ k) ^^^ col i := by
  by_cases h1 : i < 64
  · have e1 : tD d i = d ^^^ 2 ^ i := if_pos h1
    have e2 : tK k i = k := if_neg (by omega)
    have e3 : tA a i = a := if_neg (by omega)
    have e4 : tP p i = p := if_neg (by omega)
    rw [e1, e2, e3, e4, chk_d, cs_pow h1, Nat.xor_assoc, Nat.xor_comm (col i), Nat.xor_assoc]
  · have e1 : tD d i = d := if_neg h1
    by_cases h2 : i < 72
    · have e2 : tK k i = k ^^^ 2 ^ (i - 64) := if_pos (by omega)
      have e3 : tA a i = a := if_neg (by omega)
      have e4 : tP p i = p := if_neg (by omega)
      have hc := col_check (j := i - 64) (by omega)
      rw [show 64 + (i - 64) = i by omega] at hc
      rw [e1, e2, e3, e4, hc, Nat.xor_assoc]
    · have e2 : tK k i = k := if_neg (by omega)
      by_cases h3 : i = 72
      · subst h3
        have e3 : tA a 72 = xorI a 1 := if_pos rfl
        have e4 : tP p 72 = p := if_neg (by omega)
        have l1 : low 1 = 1 := rfl
        rw [e1, e2, e3, e4, low_xorI, l1]
        unfold chk
        rw [mark_xor, show mark 1 72 = col 72 from rfl]
        simp only [Nat.xor_assoc]
        rw [nxl (col 72), Nat.xor_comm (col 72)]
      · obtain rfl : i = 73 := by omega
        have e3 : tA a 73 = a := if_neg (by omega)
        have e4 : tP p 73 = xorI p 1 := if_pos rfl
        have l1 : low 1 = 1 := rfl
        rw [e1, e2, e3, e4, low_xorI, l1]
        unfold chk
        rw [mark_xor, show mark 1 73 = col 73 from rfl]
        simp only [Nat.xor_assoc]
        rw [Nat.xor_comm (col 73)]

set_option maxRecDepth 100000 in
theorem turned_any (d k : Nat) (ld : d < 18446744073709551616) (lk : k < 256) (a p : Int) (i : Nat) (hi : i < 74) (w : World) :
    Calls Try.prog 19 #[.int .u64 (d : Int), .int .u8 (k : Int), .int .i64 a, .int .i64 p, .int .i64 (i : Int)] w fun e w' =>
      e = .returned (.tuple #[.int .u64 (tD d i : Nat), .int .u8 (tK k i : Nat), .int .i64 (tA a i), .int .i64 (tP p i)]) ∧ w = w' := by
  by_cases h1 : i < 64
  · have hp := u64_shlH h1
    have h2 : 2 ^ i < 18446744073709551616 := (Nat.pow_lt_pow_right (by decide) h1 : 2 ^ i < 2 ^ 64)
    have E := Lib.hid (show tD d i = d ^^^ 2 ^ i ∧ tK k i = k ∧ tA a i = a ∧ tP p i = p from ⟨if_pos h1, if_neg (by omega), if_neg (by omega), if_neg (by omega)⟩)
    obtain ⟨P, hP⟩ : ∃ P, 2 ^ i = P := ⟨_, rfl⟩
    rw [hP] at hp h2
    have hx := u64_xor_nat d P ld h2
    have HP := Lib.hid hP
    clear hP
    go_enter Try.func19, Try.ntmps19
    go_wp2
    refine bodyPost_ret (v := .tuple #[.int .u64 ((d ^^^ P : Nat) : Int), .int .u8 (k : Int), .int .i64 a, .int .i64 p]) (by simp [results, Try.results19, go_sem]) rfl ⟨?_, rfl⟩
    rw [E.out.1, E.out.2.1, E.out.2.2.1, E.out.2.2.2, HP.out]
  · have i1 : ¬ (i : Int) < 64 := by omega
    by_cases h2 : i < 72
    · obtain ⟨j, hj⟩ : ∃ j, i - 64 = j := ⟨_, rfl⟩
      have hj2 : (i : Int) - 64 = (j : Int) := by omega
      have hj8 : j < 8 := by omega
      have hp2 : 2 ^ j < 256 := (Nat.pow_lt_pow_right (by decide) hj8 : 2 ^ j < 2 ^ 8)
      have hp3 : IntKind.u8.wrap ((2 : Int) ^ j) = ((2 ^ j : Nat) : Int) := by
        rw [show ((2 : Int) ^ j) = ((2 ^ j : Nat) : Int) by simp]; exact (fun P h => IntWalk.u8_in _ (by omega) : ∀ P : Nat, P < 256 → IntKind.u8.wrap (P : Int) = P) _ hp2
      have E := Lib.hid (show tD d i = d ∧ tK k i = k ^^^ 2 ^ j ∧ tA a i = a ∧ tP p i = p from ⟨if_neg h1, by rw [← hj]; exact if_pos (by omega), if_neg (by omega), if_neg (by omega)⟩)
      obtain ⟨P, hP⟩ : ∃ P, 2 ^ j = P := ⟨_, rfl⟩
      rw [hP] at hp2 hp3
      have hx := u8_xorN k P lk hp2
      have HP := Lib.hid hP
      have i2 : (i : Int) < 72 := by omega
      have hp4 : IntKind.u8.wrap ((2 : Int) ^ j) = (P : Int) := hp3
      clear hP hj
      go_enter Try.func19, Try.ntmps19
      go_wp2
      refine bodyPost_ret (v := .tuple #[.int .u64 (d : Int), .int .u8 ((k ^^^ P : Nat) : Int), .int .i64 a, .int .i64 p]) (by simp [results, Try.results19, go_sem]) rfl ⟨?_, rfl⟩
      rw [E.out.1, E.out.2.1, E.out.2.2.1, E.out.2.2.2, HP.out]
    · have i2 : ¬ (i : Int) < 72 := by omega
      by_cases h3 : i = 72
      · subst h3
        have hx : bits .xor .i64 a 1 = xorI a 1 := rfl
        obtain ⟨X, hX⟩ : ∃ X, xorI a 1 = X := ⟨_, rfl⟩
        rw [hX] at hx
        have E := Lib.hid (show tD d 72 = d ∧ tK k 72 = k ∧ tA a 72 = X ∧ tP p 72 = p from ⟨if_neg h1, if_neg (by omega), by rw [← hX]; exact if_pos rfl, if_neg (by omega)⟩)
        clear hX
        rw [show ((72 : Nat) : Int) = 72 from rfl]
        go_enter Try.func19, Try.ntmps19
        go_wp2
        refine bodyPost_ret (v := .tuple #[.int .u64 (d : Int), .int .u8 (k : Int), .int .i64 X, .int .i64 p]) (by simp [results, Try.results19, go_sem]) rfl ⟨?_, rfl⟩
        rw [E.out.1, E.out.2.1, E.out.2.2.1, E.out.2.2.2]
      · obtain rfl : i = 73 := by omega
        have hx : bits .xor .i64 p 1 = xorI p 1 := rfl
        obtain ⟨X, hX⟩ : ∃ X, xorI p 1 = X := ⟨_, rfl⟩
        rw [hX] at hx
        have E := Lib.hid (show tD d 73 = d ∧ tK k 73 = k ∧ tA a 73 = a ∧ tP p 73 = X from ⟨if_neg h1, if_neg (by omega), if_neg (by omega), by rw [← hX]; exact if_pos rfl⟩)
        clear hX
        rw [show ((73 : Nat) : Int) = 73 from rfl]
        go_enter Try.func19, Try.ntmps19
        go_wp2
        refine bodyPost_ret (v := .tuple #[.int .u64 (d : Int), .int .u8 (k : Int), .int .i64 a, .int .i64 X]) (by simp [results, Try.results19, go_sem]) rfl ⟨?_, rfl⟩
        rw [E.out.1, E.out.2.1, E.out.2.2.1, E.out.2.2.2]
end Go.Proofs.Ytbhonojfglhbeaa
