/- Several texts in one: RawX RawT. -/
import Derived.Test.YtkeheickaogpiaaRwA
import Derived.Test.YtkeheickaogpiaaBtA
import Derived.Deep.QuietTactic
import Derived.BigQuiet
import Derived.Test.YtkeheickaogpiaaOwA
import Derived.Deep.WholeRow
import Derived.Sort.CutIn
namespace Go.Proofs.Ytkeheickaogpiaa
open Go.RowKit Go.Shelf
attribute [local go_sem] Oper.semAt_some

theorem exP_small (mode : Int) (xs ys : List UInt8) (k : Nat) : exP mode xs ys k ≤ 64 * 36 := exP_le mode xs ys k
theorem sumN_le' (mode : Int) (f g : Nat → UInt8) (n : Nat) : sumN (fun j => cst mode (f j) (g j)) n ≤ 64 * n := by
  induction n with
  | zero => exact Nat.le_refl _
  | succ n ih =>
    rw [sumN]
    have h1 := cst_le mode (f n) (g n)
    have : cst mode (f n) (g n) ≤ 8 := by split at h1 <;> omega
    omega
set_option maxRecDepth 100000 in
set_option maxHeartbeats 1000000 in
theorem refExp_any (mode : Int) (xs ys : List UInt8) (lx : xs.length = 72) (ly : ys.length = 72) (w : World) :
    Calls Try.prog 18 #[.int .i64 mode, .agg (rawV xs), .agg (rawV ys)] w fun e w' => e = .returned (.int .i64 (expo mode xs ys : Nat)) ∧ Below w.heap.size w w' := by
  have HRC := Lib.hid (fun W => refChips_any mode W)
  have HC1 := fun j (hj : j < 72) => rawV_get xs (i := j) (by rw [lx]; exact hj)
  have HC2 := fun j (hj : j < 72) => rawV_get ys (i := j) (by rw [ly]; exact hj)
  obtain ⟨cx, hcx⟩ : ∃ cv, rawV xs = cv := ⟨_, rfl⟩
  obtain ⟨cy, hcy⟩ : ∃ cv, rawV ys = cv := ⟨_, rfl⟩
  rw [hcx] at HC1 ⊢
  rw [hcy] at HC2 ⊢
  have HC := Lib.hid (And.intro HC1 HC2)
  have HLX := Lib.hid (And.intro lx ly)
  obtain ⟨b0, hb0⟩ : ∃ b0, w.heap.size = b0 := ⟨_, rfl⟩
  have HB0 := Lib.hid hb0
  have OW := Lib.hid (Own.start b0 w)
  have OZ := Lib.hid (And.intro hb0 (Nat.le_refl b0))
  clear hcx hcy lx ly hb0 HC1 HC2
  rcases modes mode with rfl | rfl | ⟨h1, h2⟩
  · rw [show chN 1 = 9 from rfl, show ((9 : Nat) : Int) = 9 from rfl] at HRC
    refine (callsIn_wide (n := 6)).1 ?_
    refine callsIn_of_wp_marks Try.func18 rfl trivial ?_ rfl
    simp only [Try.ntmps18, List.size_toArray, List.length_cons, List.length_nil, Nat.reduceAdd, Nat.reduceSub, Array.replicate_succ, Array.replicate_zero, List.push_toArray, List.append_toArray, List.nil_append, List.cons_append]
    gi_wp2_with (first
      | (refine own_box 26 (.tmp 1) rfl rfl (.agg cx) rfl cx rfl OW OZ ?_; clear OW OZ; intro W OW OZ)
      | (refine own_box 26 (.tmp 2) rfl rfl (.agg cy) rfl cy rfl OW OZ ?_; clear OW OZ; intro W OW OZ))
    refine ⟨trivial, ?_⟩
    refine (callsIn_wide.2 (HRC.out _)).mono ?_
    rintro e W1 ⟨rfl, rfl⟩
    gi_wp2
    gi_loopw [8, 9] (fun m i wr => ∃ k : Nat, k ≤ 8 ∧ i = .int .i64 k ∧ m = .int .i64 ((exP 1 xs ys k : Nat) : Int) ∧ Own b0 w [cellsO b0 26 cx, cellsO (b0 + 1) 26 cy] wr) (fun _ i _ => 8 - (intOf i).toNat)
    case atStart => exact ⟨0, by omega, rfl, rfl, OW.out⟩
    case round =>
      obtain ⟨k, hk, rfl, rfl, hO⟩ := hrel
      clear OW OZ
      have hb := exP_small 1 xs ys k
      by_cases hl : k < 8
      · have HK := Lib.hid (show exP 1 xs ys (k + 1) = max (exP 1 xs ys k) (sumN (fun j => cst 1 (xs.getD (9 * k + j) 0) (ys.getD (9 * k + j) 0)) 9) by rw [exP, ul_word HLX.out.1 HLX.out.2 (by exact hl)]; rfl)
        obtain ⟨M, hM⟩ : ∃ M, exP 1 xs ys k = M := ⟨_, rfl⟩
        rw [hM] at HK hb ⊢
        have OW := Lib.hid hO
        clear hO hM
        have q72 : Int.tdiv 72 9 = 8 := rfl
        gi_wp2
        gi_loopw [10, 11] (fun c i wr2 => ∃ j : Nat, j ≤ 9 ∧ i = .int .i64 ((9 : Int) * (k : Int) + (j : Int)) ∧ c = .int .i64 ((sumN (fun j => cst 1 (xs.getD (9 * k + j) 0) (ys.getD (9 * k + j) 0)) j : Nat) : Int) ∧ Own b0 w [cellsO b0 26 cx, cellsO (b0 + 1) 26 cy] wr2) (fun _ i _ => 9 * k + 9 - (intOf i).toNat)
        case atStart => exact ⟨0, by omega, by simp, rfl, OW.out⟩
        case round =>
          obtain ⟨j, hj, rfl, rfl, hO2⟩ := hrel
          clear OW
          by_cases hl2 : j < 9
          · have e1 := (hO2.blk (k := 0) rfl).cell (9 * k + j)
            have e2 := (hO2.blk (k := 1) rfl).cell (9 * k + j)
            rw [HC.out.1 (9 * k + j) (by omega)] at e1
            rw [HC.out.2 (9 * k + j) (by omega)] at e2
            obtain ⟨x, hx⟩ : ∃ x, xs.getD (9 * k + j) 0 = x := ⟨_, rfl⟩
            obtain ⟨y, hy⟩ : ∃ x, ys.getD (9 * k + j) 0 = x := ⟨_, rfl⟩
            have HS := Lib.hid (show sumN (fun j => cst 1 (xs.getD (9 * k + j) 0) (ys.getD (9 * k + j) 0)) (j + 1) = sumN (fun j => cst 1 (xs.getD (9 * k + j) 0) (ys.getD (9 * k + j) 0)) j + cst 1 x y by rw [sumN, hx, hy])
            have hsl := sumN_le' 1 (fun j => xs.getD (9 * k + j) 0) (fun j => ys.getD (9 * k + j) 0) j
            obtain ⟨S, hS⟩ : ∃ S, sumN (fun j => cst 1 (xs.getD (9 * k + j) 0) (ys.getD (9 * k + j) 0)) j = S := ⟨_, rfl⟩
            have hsl' : S ≤ 64 * j := by rw [← hS]; exact hsl
            rw [hx] at e1
            rw [hy] at e2
            rw [hS] at HS ⊢
            obtain ⟨p, hp⟩ : ∃ p, 9 * k + j = p := ⟨_, rfl⟩
            have hp' : (9 : Int) * (k : Int) + (j : Int) = (p : Int) := by omega
            rw [hp] at e1 e2
            have hz := u8_xorF x y
            have lz : (x ^^^ y).toNat < 256 := UInt8.toNat_lt _
            have HS2 := Lib.hid (show sumN (fun j => cst 1 (xs.getD (9 * k + j) 0) (ys.getD (9 * k + j) 0)) (j + 1) = S + pc (x ^^^ y).toNat from HS.out)
            obtain ⟨z, hz2⟩ : ∃ z, (x ^^^ y).toNat = z := ⟨_, rfl⟩
            have RW := fun w => refWeight (z : Int) z rfl (by omega) w
            have hPl : pc z ≤ 64 := pc_le z
            rw [hz2] at hz lz HS2
            obtain ⟨P, hP⟩ : ∃ P, pc z = P := ⟨_, rfl⟩
            rw [hP] at RW HS2 hPl
            have HW := Lib.hid RW
            have OW := Lib.hid hO2
            have i0 : (0 : Int) ≤ (p : Int) := by omega
            have i1 : (p : Int) < 72 := by omega
            have i2 : (p : Int) < 9 * (k : Int) + 9 := by omega
            have HPP := Lib.hid hp'
            rw [hp']
            clear hx hy hS hsl hz2 hP RW hO2 HS hp hp'
            gi_upto_region 11 with fail
            refine wpIn_wide.2 ?_
            go_quiet ((go_at_call 36; exact Calls.quiet_of_same ((HW.out _).mono fun _ _ h => ⟨h.1, h.2.symm⟩)))
            gi_wp2
            go_roundw
            case rel => exact ⟨j + 1, hl2, by rw [← HPP.out]; go_num, by rw [HS2.out]; go_num, OW.out.drewN nq⟩
            case measure => have := HPP.out; simp [intOf]; omega
          · obtain rfl : j = 9 := by omega
            obtain ⟨S, hS⟩ : ∃ S, sumN (fun j => cst 1 (xs.getD (9 * k + j) 0) (ys.getD (9 * k + j) 0)) 9 = S := ⟨_, rfl⟩
            rw [hS] at HK ⊢
            have OW := Lib.hid hO2
            clear hO2 hS
            by_cases hms : M < S
            · have HE := Lib.hid (show exP 1 xs ys (k + 1) = S by rw [HK.out]; omega)
              clear HK
              gi_wp2
              go_roundw
              case rel => exact ⟨k + 1, hl, by go_num, by rw [HE.out], OW.out⟩
              case measure => simp [intOf]; omega
            · have HE := Lib.hid (show exP 1 xs ys (k + 1) = M by rw [HK.out]; omega)
              have hms' : S ≤ M := by omega
              clear HK hms
              gi_wp2
              go_roundw
              case rel => exact ⟨k + 1, hl, by go_num, by rw [HE.out], OW.out⟩
              case measure => simp [intOf]; omega
      · obtain rfl : k = 8 := by omega
        have OW := Lib.hid hO
        have HE := Lib.hid (show expo 1 xs ys = exP 1 xs ys 8 from rfl)
        obtain ⟨M, hM⟩ : ∃ M, exP 1 xs ys 8 = M := ⟨_, rfl⟩
        rw [hM] at hb ⊢
        rw [hM] at HE
        clear hO hM
        have q72 : Int.tdiv 72 9 = 8 := rfl
        gi_wp2
        refine leaves_own [] _ (Nat.le_of_eq HB0.out) (by simpa using OW.out) ?_
        intro W' hO
        exact ⟨.int .i64 (M : Nat), by simp [results, Try.results18, go_sem], by rw [HE.out], hO.done HB0⟩
  · rw [show chN 2 = 36 from rfl, show ((36 : Nat) : Int) = 36 from rfl] at HRC
    refine (callsIn_wide (n := 6)).1 ?_
    refine callsIn_of_wp_marks Try.func18 rfl trivial ?_ rfl
    simp only [Try.ntmps18, List.size_toArray, List.length_cons, List.length_nil, Nat.reduceAdd, Nat.reduceSub, Array.replicate_succ, Array.replicate_zero, List.push_toArray, List.append_toArray, List.nil_append, List.cons_append]
    gi_wp2_with (first
      | (refine own_box 26 (.tmp 1) rfl rfl (.agg cx) rfl cx rfl OW OZ ?_; clear OW OZ; intro W OW OZ)
      | (refine own_box 26 (.tmp 2) rfl rfl (.agg cy) rfl cy rfl OW OZ ?_; clear OW OZ; intro W OW OZ))
    refine ⟨trivial, ?_⟩
    refine (callsIn_wide.2 (HRC.out _)).mono ?_
    rintro e W1 ⟨rfl, rfl⟩
    gi_wp2
    gi_loopw [8, 9] (fun m i wr => ∃ k : Nat, k ≤ 2 ∧ i = .int .i64 k ∧ m = .int .i64 ((exP 2 xs ys k : Nat) : Int) ∧ Own b0 w [cellsO b0 26 cx, cellsO (b0 + 1) 26 cy] wr) (fun _ i _ => 2 - (intOf i).toNat)
    case atStart => exact ⟨0, by omega, rfl, rfl, OW.out⟩
    case round =>
      obtain ⟨k, hk, rfl, rfl, hO⟩ := hrel
      clear OW OZ
      have hb := exP_small 2 xs ys k
      by_cases hl : k < 2
      · have HK := Lib.hid (show exP 2 xs ys (k + 1) = max (exP 2 xs ys k) (sumN (fun j => cst 2 (xs.getD (36 * k + j) 0) (ys.getD (36 * k + j) 0)) 36) by rw [exP, ul_word HLX.out.1 HLX.out.2 (by exact hl)]; rfl)
        obtain ⟨M, hM⟩ : ∃ M, exP 2 xs ys k = M := ⟨_, rfl⟩
        rw [hM] at HK hb ⊢
        have OW := Lib.hid hO
        clear hO hM
        have q72 : Int.tdiv 72 36 = 2 := rfl
        gi_wp2
        gi_loopw [10, 11] (fun c i wr2 => ∃ j : Nat, j ≤ 36 ∧ i = .int .i64 ((36 : Int) * (k : Int) + (j : Int)) ∧ c = .int .i64 ((sumN (fun j => cst 2 (xs.getD (36 * k + j) 0) (ys.getD (36 * k + j) 0)) j : Nat) : Int) ∧ Own b0 w [cellsO b0 26 cx, cellsO (b0 + 1) 26 cy] wr2) (fun _ i _ => 36 * k + 36 - (intOf i).toNat)
        case atStart => exact ⟨0, by omega, by simp, rfl, OW.out⟩
        case round =>
          obtain ⟨j, hj, rfl, rfl, hO2⟩ := hrel
          clear OW
          by_cases hl2 : j < 36
          · have e1 := (hO2.blk (k := 0) rfl).cell (36 * k + j)
            have e2 := (hO2.blk (k := 1) rfl).cell (36 * k + j)
            rw [HC.out.1 (36 * k + j) (by omega)] at e1
            rw [HC.out.2 (36 * k + j) (by omega)] at e2
            obtain ⟨x, hx⟩ : ∃ x, xs.getD (36 * k + j) 0 = x := ⟨_, rfl⟩
            obtain ⟨y, hy⟩ : ∃ x, ys.getD (36 * k + j) 0 = x := ⟨_, rfl⟩
            have HS := Lib.hid (show sumN (fun j => cst 2 (xs.getD (36 * k + j) 0) (ys.getD (36 * k + j) 0)) (j + 1) = sumN (fun j => cst 2 (xs.getD (36 * k + j) 0) (ys.getD (36 * k + j) 0)) j + cst 2 x y by rw [sumN, hx, hy])
            have hsl := sumN_le' 2 (fun j => xs.getD (36 * k + j) 0) (fun j => ys.getD (36 * k + j) 0) j
            obtain ⟨S, hS⟩ : ∃ S, sumN (fun j => cst 2 (xs.getD (36 * k + j) 0) (ys.getD (36 * k + j) 0)) j = S := ⟨_, rfl⟩
            have hsl' : S ≤ 64 * j := by rw [← hS]; exact hsl
            rw [hx] at e1
            rw [hy] at e2
            rw [hS] at HS ⊢
            obtain ⟨p, hp⟩ : ∃ p, 36 * k + j = p := ⟨_, rfl⟩
            have hp' : (36 : Int) * (k : Int) + (j : Int) = (p : Int) := by omega
            rw [hp] at e1 e2
            have OW := Lib.hid hO2
            have i0 : (0 : Int) ≤ (p : Int) := by omega
            have i1 : (p : Int) < 72 := by omega
            have i2 : (p : Int) < 36 * (k : Int) + 36 := by omega
            have HPP := Lib.hid hp'
            rw [hp']
            clear hx hy hS hsl hO2 hp hp'
            by_cases hxy : x = y
            · subst hxy
              have HS2 := Lib.hid (show sumN (fun j => cst 2 (xs.getD (36 * k + j) 0) (ys.getD (36 * k + j) 0)) (j + 1) = S by rw [HS.out, cst_self]; rfl)
              have q1 : ((x.toNat : Int) != (x.toNat : Int)) = false := by simp
              obtain ⟨z, hz⟩ : ∃ z, x.toNat = z := ⟨_, rfl⟩
              rw [hz] at e1 e2 q1
              clear hz HS
              gi_upto_region 12 with fail
              refine wpIn_wide.2 ?_
              go_quiet (fail)
              gi_wp2
              go_roundw
              case rel => exact ⟨j + 1, hl2, by rw [← HPP.out]; go_num, by rw [HS2.out], OW.out.drewN nq⟩
              case measure => have := HPP.out; simp [intOf]; omega
            · have HS2 := Lib.hid (show sumN (fun j => cst 2 (xs.getD (36 * k + j) 0) (ys.getD (36 * k + j) 0)) (j + 1) = S + 1 by rw [HS.out]; unfold cst; rw [if_neg (by omega), if_neg hxy])
              have q1 : ((x.toNat : Int) != (y.toNat : Int)) = true := by rw [bne_iff_ne]; intro h; exact hxy (UInt8.toNat_inj.1 (by omega))
              obtain ⟨z, hz⟩ : ∃ z, x.toNat = z := ⟨_, rfl⟩
              obtain ⟨z', hz'⟩ : ∃ z, y.toNat = z := ⟨_, rfl⟩
              rw [hz] at e1 q1
              rw [hz'] at e2 q1
              clear hz hz' HS hxy
              gi_upto_region 12 with fail
              refine wpIn_wide.2 ?_
              go_quiet (fail)
              gi_wp2
              go_roundw
              case rel => exact ⟨j + 1, hl2, by rw [← HPP.out]; go_num, by rw [HS2.out]; go_num, OW.out.drewN nq⟩
              case measure => have := HPP.out; simp [intOf]; omega
          · obtain rfl : j = 36 := by omega
            obtain ⟨S, hS⟩ : ∃ S, sumN (fun j => cst 2 (xs.getD (36 * k + j) 0) (ys.getD (36 * k + j) 0)) 36 = S := ⟨_, rfl⟩
            rw [hS] at HK ⊢
            have OW := Lib.hid hO2
            clear hO2 hS
            by_cases hms : M < S
            · have HE := Lib.hid (show exP 2 xs ys (k + 1) = S by rw [HK.out]; omega)
              clear HK
              gi_wp2
              go_roundw
              case rel => exact ⟨k + 1, hl, by go_num, by rw [HE.out], OW.out⟩
              case measure => simp [intOf]; omega
            · have HE := Lib.hid (show exP 2 xs ys (k + 1) = M by rw [HK.out]; omega)
              have hms' : S ≤ M := by omega
              clear HK hms
              gi_wp2
              go_roundw
              case rel => exact ⟨k + 1, hl, by go_num, by rw [HE.out], OW.out⟩
              case measure => simp [intOf]; omega
      · obtain rfl : k = 2 := by omega
        have OW := Lib.hid hO
        have HE := Lib.hid (show expo 2 xs ys = exP 2 xs ys 2 from rfl)
        obtain ⟨M, hM⟩ : ∃ M, exP 2 xs ys 2 = M := ⟨_, rfl⟩
        rw [hM] at hb ⊢
        rw [hM] at HE
        clear hO hM
        have q72 : Int.tdiv 72 36 = 2 := rfl
        gi_wp2
        refine leaves_own [] _ (Nat.le_of_eq HB0.out) (by simpa using OW.out) ?_
        intro W' hO
        exact ⟨.int .i64 (M : Nat), by simp [results, Try.results18, go_sem], by rw [HE.out], hO.done HB0⟩
  · have HE := Lib.hid (expo_none h1 h2 xs ys)
    rw [show chN mode = 0 by unfold chN; rw [if_neg h1, if_neg h2]] at HRC
    rw [show ((0 : Nat) : Int) = 0 from rfl] at HRC
    rw [HE.out]
    clear h1 h2
    refine (callsIn_wide (n := 6)).1 ?_
    refine callsIn_of_wp_marks Try.func18 rfl trivial ?_ rfl
    simp only [Try.ntmps18, List.size_toArray, List.length_cons, List.length_nil, Nat.reduceAdd, Nat.reduceSub, Array.replicate_succ, Array.replicate_zero, List.push_toArray, List.append_toArray, List.nil_append, List.cons_append]
    gi_wp2_with (first
      | (refine own_box 26 (.tmp 1) rfl rfl (.agg cx) rfl cx rfl OW OZ ?_; clear OW OZ; intro W OW OZ)
      | (refine own_box 26 (.tmp 2) rfl rfl (.agg cy) rfl cy rfl OW OZ ?_; clear OW OZ; intro W OW OZ))
    refine ⟨trivial, ?_⟩
    refine (callsIn_wide.2 (HRC.out _)).mono ?_
    rintro e W1 ⟨rfl, rfl⟩
    gi_wp2
    gi_loopw [8, 9] (fun m i wr => m = .int .i64 0 ∧ i = .int .i64 0 ∧ Own b0 w [cellsO b0 26 cx, cellsO (b0 + 1) 26 cy] wr) (fun _ _ _ => 0)
    case atStart => exact ⟨rfl, rfl, OW.out⟩
    case round =>
      obtain ⟨rfl, rfl, hO⟩ := hrel
      clear OW OZ
      have OW := Lib.hid hO
      clear hO
      gi_wp2
      refine leaves_own [] _ (Nat.le_of_eq HB0.out) (by simpa using OW.out) ?_
      intro W' hO
      exact ⟨_, by simp [results, Try.results18, go_sem], rfl, hO.done HB0⟩
end Go.Proofs.Ytkeheickaogpiaa
namespace Go.Proofs.Ytkeheickaogpiaa
open Go.RowKit Go.Shelf
attribute [local go_sem] Oper.semAt_some

set_option maxRecDepth 100000 in
set_option maxHeartbeats 1000000 in
theorem rflip_any (xs : List UInt8) (lx : xs.length = 72) (b : Int) (v0 : -9223372036854775808 ≤ b) (v1 : b ≤ 9223372036854775807) (w : World) :
    Calls Try.prog 21 #[.agg (rawV xs), .int .i64 b] w fun e w' => e = .returned (.agg (rawV (flipI xs b))) ∧ Below w.heap.size w w' := by
  have lf : (flipI xs b).length = 72 := by rw [flipI_length, lx]
  have HSN := Lib.hid (show (Try.prog.info? 27).map (·.size) = some (rawV (flipI xs b)).size by rw [rawV_size, lf]; exact infoRaw)
  have HNS := Lib.hid (show (rawV (flipI xs b)).size = (rawV zero72).size by rw [rawV_size, rawV_size, lf]; rfl)
  have HN1 := Lib.hid (rawV_one (flipI xs b))
  obtain ⟨nv, hnv⟩ : ∃ nv, rawV (flipI xs b) = nv := ⟨_, rfl⟩
  rw [hnv] at HSN HNS HN1 ⊢
  have HNV := Lib.hid hnv
  clear lf hnv
  by_cases hin : 0 ≤ b ∧ b < 576
  · obtain ⟨p, rfl⟩ := Int.eq_ofNat_of_zero_le hin.1
    have hp : p / 8 < 72 := by omega
    have hfl := flipI_in (xs := xs) (p := p) (by rw [lx]; exact hp)
    have m1 := i64_and7 p (by omega)
    obtain ⟨r, hr⟩ : ∃ r, p % 8 = r := ⟨_, rfl⟩
    have hrl : r < 8 := by omega
    rw [hr] at m1 hfl
    have i1 : (p : Int) / 8 < 72 := by omega
    have hset : (rawV xs).setIfInBounds (p / 8) (.int .u8 ((xs.getD (p / 8) 0 ^^^ UInt8.ofNat (2 ^ r)).toNat : Int)) = nv := by rw [rawV_set, ← hfl]; exact HNV.out
    have HSX := Lib.hid (show (Try.prog.info? 27).map (·.size) = some (rawV xs).size by rw [rawV_size, lx]; exact infoRaw)
    have HSZ := Lib.hid (show (Try.prog.info? 27).map (·.size) = some (rawV zero72).size by rw [rawV_size]; exact infoRaw)
    have HC1 := fun j (hj : j < 72) => rawV_get xs (i := j) (by rw [lx]; exact hj)
    obtain ⟨cv, hcv⟩ : ∃ cv, rawV xs = cv := ⟨_, rfl⟩
    rw [hcv] at HSX HC1 ⊢
    have HCV := Lib.hid hcv
    have HC := Lib.hid HC1
    have HLX := Lib.hid lx
    obtain ⟨b0, hb0⟩ : ∃ b0, w.heap.size = b0 := ⟨_, rfl⟩
    have HB0 := Lib.hid hb0
    have OW := Lib.hid (Own.start b0 w)
    have OZ := Lib.hid (And.intro hb0 (Nat.le_refl b0))
    clear hcv lx hb0 HC1
    have HSET := Lib.hid hset
    have e1 := HC.out (p / 8) hp
    obtain ⟨x, hx⟩ : ∃ x, xs.getD (p / 8) 0 = x := ⟨_, rfl⟩
    rw [hx] at e1 HSET
    have hz := u8_xorF x (UInt8.ofNat (2 ^ r))
    have e2 : ((UInt8.ofNat (2 ^ r)).toNat : Int) = (2 : Int) ^ r % 256 := by rw [UInt8.toNat_ofNat']; simp
    rw [e2] at hz
    have HZ := Lib.hid hz
    have HR := Lib.hid hr
    obtain ⟨n, hn⟩ : ∃ n, x.toNat = n := ⟨_, rfl⟩
    have lx8 := x.toNat_lt
    rw [hn] at e1 HZ lx8
    clear hx hz e2 hfl hr hn hset hin
    rw [HCV.out] at HSET
    have i3 : (p : Int) < 576 := by omega
    refine (callsIn_wide (n := 6)).1 ?_
    refine callsIn_of_wp_marks Try.func21 rfl trivial ?_ rfl
    simp only [Try.ntmps21, List.size_toArray, List.length_cons, List.length_nil, Nat.reduceAdd, Nat.reduceSub, Array.replicate_succ, Array.replicate_zero, List.push_toArray, List.append_toArray, List.nil_append, List.cons_append]
    gi_upto_region 1 with (first
      | (refine own_box 27 (.tmp 0) rfl rfl (.agg cv) rfl cv rfl OW OZ ?_; clear OW OZ; intro W OW OZ)
      | (refine own_alloc 27 rfl rfl _ alRaw OW OZ ?_; clear OW OZ; intro W OW OZ))
    have e1' := ((OW.out.blk (k := 0) rfl).cell (p / 8)).trans e1
    have f1 := (OW.out.blk (k := 0) rfl).frozen (p / 8)
    clear e1
    gi_upto_region 3 with fail
    refine own_setcN (k := 0) rfl OW OZ ?_
    clear OW OZ e1' f1
    intro W OW OZ
    rw [HZ.out, HSET.out] at OW
    gi_wp2_with (first
      | (refine own_box 27 (.tmp 0) rfl rfl (.agg cv) rfl cv rfl OW OZ ?_; clear OW OZ; intro W OW OZ)
      | (refine own_alloc 27 rfl rfl _ alRaw OW OZ ?_; clear OW OZ; intro W OW OZ)
      | (refine own_loadRow 0 27 (.tmp 2) rfl rfl rfl rfl _ Try.underlying27 rfl HSN.out OW ?_)
      | (refine own_storeRow 1 27 (.tmp 4) (.tmp 21) rfl rfl rfl rfl nv rfl HNS.out HN1.out HSN.out _ rfl OW OZ ?_; clear OW OZ; intro W OW OZ))
    refine leaves_own [] _ (Nat.le_of_eq HB0.out) (by simpa using OW.out) ?_
    intro W' hO
    exact ⟨_, results_ownRow hO 1 rfl rfl rfl Try.underlying27 rfl HSN.out, rfl, hO.done HB0⟩
  · have HE := Lib.hid (show flipI xs b = xs from flipI_out (by rw [lx]; omega))
    have HSX := Lib.hid (show (Try.prog.info? 27).map (·.size) = some (rawV xs).size by rw [rawV_size, lx]; exact infoRaw)
    have HSZ := Lib.hid (show (Try.prog.info? 27).map (·.size) = some (rawV zero72).size by rw [rawV_size]; exact infoRaw)
    have HC1 := fun j (hj : j < 72) => rawV_get xs (i := j) (by rw [lx]; exact hj)
    obtain ⟨cv, hcv⟩ : ∃ cv, rawV xs = cv := ⟨_, rfl⟩
    rw [hcv] at HSX HC1 ⊢
    have HCV := Lib.hid hcv
    have HC := Lib.hid HC1
    have HLX := Lib.hid lx
    obtain ⟨b0, hb0⟩ : ∃ b0, w.heap.size = b0 := ⟨_, rfl⟩
    have HB0 := Lib.hid hb0
    have OW := Lib.hid (Own.start b0 w)
    have OZ := Lib.hid (And.intro hb0 (Nat.le_refl b0))
    clear hcv lx hb0 HC1
    have HNC := Lib.hid (show cv = nv by rw [← HNV.out, ← HCV.out, HE.out])
    rw [HNC.out]
    rw [HNC.out] at HSX
    clear HC HCV
    obtain ⟨cv, hcv⟩ : ∃ cv, nv = cv := ⟨_, rfl⟩
    subst hcv
    by_cases h0 : 0 ≤ b
    · have h1 : 576 ≤ b := by omega
      clear hin
      refine (callsIn_wide (n := 6)).1 ?_
      refine callsIn_of_wp_marks Try.func21 rfl trivial ?_ rfl
      simp only [Try.ntmps21, List.size_toArray, List.length_cons, List.length_nil, Nat.reduceAdd, Nat.reduceSub, Array.replicate_succ, Array.replicate_zero, List.push_toArray, List.append_toArray, List.nil_append, List.cons_append]
      gi_wp2_with (first
        | (refine own_box 27 (.tmp 0) rfl rfl (.agg nv) rfl nv rfl OW OZ ?_; clear OW OZ; intro W OW OZ)
        | (refine own_alloc 27 rfl rfl _ alRaw OW OZ ?_; clear OW OZ; intro W OW OZ)
        | (refine own_loadRow 0 27 (.tmp 2) rfl rfl rfl rfl _ Try.underlying27 rfl HSN.out OW ?_)
        | (refine own_storeRow 1 27 (.tmp 4) (.tmp 21) rfl rfl rfl rfl nv rfl HNS.out HN1.out HSN.out _ rfl OW OZ ?_; clear OW OZ; intro W OW OZ))
      refine leaves_own [] _ (Nat.le_of_eq HB0.out) (by simpa using OW.out) ?_
      intro W' hO
      exact ⟨_, results_ownRow hO 1 rfl rfl rfl Try.underlying27 rfl HSN.out, rfl, hO.done HB0⟩
    · clear hin
      refine (callsIn_wide (n := 6)).1 ?_
      refine callsIn_of_wp_marks Try.func21 rfl trivial ?_ rfl
      simp only [Try.ntmps21, List.size_toArray, List.length_cons, List.length_nil, Nat.reduceAdd, Nat.reduceSub, Array.replicate_succ, Array.replicate_zero, List.push_toArray, List.append_toArray, List.nil_append, List.cons_append]
      gi_wp2_with (first
        | (refine own_box 27 (.tmp 0) rfl rfl (.agg nv) rfl nv rfl OW OZ ?_; clear OW OZ; intro W OW OZ)
        | (refine own_alloc 27 rfl rfl _ alRaw OW OZ ?_; clear OW OZ; intro W OW OZ)
        | (refine own_loadRow 0 27 (.tmp 2) rfl rfl rfl rfl _ Try.underlying27 rfl HSN.out OW ?_)
        | (refine own_storeRow 1 27 (.tmp 4) (.tmp 21) rfl rfl rfl rfl nv rfl HNS.out HN1.out HSN.out _ rfl OW OZ ?_; clear OW OZ; intro W OW OZ))
      refine leaves_own [] _ (Nat.le_of_eq HB0.out) (by simpa using OW.out) ?_
      intro W' hO
      exact ⟨_, results_ownRow hO 1 rfl rfl rfl Try.underlying27 rfl HSN.out, rfl, hO.done HB0⟩
end Go.Proofs.Ytkeheickaogpiaa
