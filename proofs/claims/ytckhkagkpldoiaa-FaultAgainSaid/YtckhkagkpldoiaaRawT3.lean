/- The reference's Chip, and raw's Whose: walks. -/
import Derived.Test.YtckhkagkpldoiaaRawT2
namespace Go.Proofs.Ytckhkagkpldoiaa
open Go.RowKit Go.Shelf
attribute [local go_sem] Oper.semAt_some

/-- The first i bytes gone through: those of a chip are set. -/
def chR (n : Nat) (chip : Int) (v : UInt8) (xs : List UInt8) (i : Nat) : List UInt8 := (List.range 72).map fun j => if j < i ∧ ((j % n : Nat) : Int) = chip then v else xs.getD j 0
theorem chR_len (n : Nat) (chip : Int) (v : UInt8) (xs : List UInt8) (i : Nat) : (chR n chip v xs i).length = 72 := by unfold chR; rw [List.length_map, List.length_range]
theorem chR_get {n : Nat} {chip : Int} {v : UInt8} {xs : List UInt8} {i j : Nat} (h : j < 72) : (chR n chip v xs i).getD j 0 = if j < i ∧ ((j % n : Nat) : Int) = chip then v else xs.getD j 0 := by
  unfold chR
  rw [List.getD_eq_getElem?_getD, List.getElem?_map, List.getElem?_range h]
  rfl
theorem eq72 {xs ys : List UInt8} (hx : xs.length = 72) (hy : ys.length = 72) (h : ∀ i, i < 72 → xs.getD i 0 = ys.getD i 0) : xs = ys := by
  refine List.ext_getElem (by omega) fun i h1 h2 => ?_
  have h3 := h i (by omega)
  rwa [List.getD_eq_getElem?_getD, List.getD_eq_getElem?_getD, List.getElem?_eq_getElem h1, List.getElem?_eq_getElem h2] at h3
theorem set_getD {xs : List UInt8} {k : Nat} {v : UInt8} {i : Nat} (hk : k < xs.length) : (xs.set k v).getD i 0 = if i = k then v else xs.getD i 0 := by
  rw [List.getD_eq_getElem?_getD, List.getElem?_set]
  by_cases e : k = i
  · subst e; rw [if_pos rfl, if_pos hk, if_pos rfl]; rfl
  · rw [if_neg e, if_neg (Ne.symm e), ← List.getD_eq_getElem?_getD]
theorem chR_set {n : Nat} {chip : Int} {v : UInt8} {xs : List UInt8} {i : Nat} (h : i < 72) (hc : ((i % n : Nat) : Int) = chip) : (chR n chip v xs i).set i v = chR n chip v xs (i + 1) := by
  refine eq72 (by rw [List.length_set, chR_len]) (chR_len ..) fun j hj => ?_
  rw [set_getD (by rw [chR_len]; exact h), chR_get hj, chR_get hj]
  by_cases e : j = i
  · subst e; rw [if_pos rfl, if_pos ⟨by omega, hc⟩]
  · rw [if_neg e]
    congr 1
    refine propext ⟨fun h => ⟨by omega, h.2⟩, fun h => ⟨by omega, h.2⟩⟩
theorem chR_skip {n : Nat} {chip : Int} {v : UInt8} {xs : List UInt8} {i : Nat} (h : i < 72) (hc : ((i % n : Nat) : Int) ≠ chip) : chR n chip v xs (i + 1) = chR n chip v xs i := by
  refine eq72 (chR_len ..) (chR_len ..) fun j hj => ?_
  rw [chR_get hj, chR_get hj]
  congr 1
  refine propext ⟨fun h => ⟨?_, h.2⟩, fun h => ⟨by omega, h.2⟩⟩
  by_cases e : j = i
  · subst e; exact absurd h.2 hc
  · omega
theorem chR_zero {n : Nat} {chip : Int} {v : UInt8} {xs : List UInt8} (lx : xs.length = 72) : chR n chip v xs 0 = xs :=
  eq72 (chR_len ..) lx fun j hj => by rw [chR_get hj, if_neg (fun h => absurd h.1 (Nat.not_lt_zero _))]
theorem chR_all {mode chip : Int} (hm : mode = 1 ∨ mode = 2) {v : UInt8} {xs : List UInt8} (lx : xs.length = 72) : chR (chN mode) chip v xs 72 = chipB mode xs chip v := by
  refine eq72 (chR_len ..) (chipB_len lx) fun j hj => ?_
  obtain ⟨p1, p2, p3⟩ := place_of hm hj
  rw [chR_get hj]
  by_cases hc : 0 ≤ chip ∧ chip < chN mode
  · obtain ⟨c, rfl⟩ := Int.eq_ofNat_of_zero_le hc.1
    rw [chipB_get hm lx (by omega) v hj]
    congr 1
    exact propext ⟨fun h => by have := h.2; omega, fun h => ⟨hj, by rw [h]⟩⟩
  · rw [chipB_out hc, if_neg]
    rintro ⟨_, h⟩
    apply hc
    rw [← h]
    omega

set_option maxRecDepth 100000 in
set_option maxHeartbeats 1000000 in
theorem refChip_any (mode : Int) (xs : List UInt8) (lx : xs.length = 72) (chip : Int) (v : UInt8) (w : World) :
    Calls Try.prog 68 #[.int .i64 mode, .agg (rawV xs), .int .i64 chip, .int .u8 (v.toNat : Int)] w fun e w' => e = .returned (.agg (rawV (chipB mode xs chip v))) ∧ Below w.heap.size w w' := by
  have HRC := Lib.hid (fun W => refChips_any mode W)
  have lc := chipB_len (mode := mode) (chip := chip) (v := v) lx
  have HSX2 := Lib.hid (show (Try.prog.info? 40).map (·.size) = some (rawV xs).size by rw [rawV_size, lx]; exact infoRaw2)
  have HNS := Lib.hid (fun zs : List UInt8 => fun h : zs.length = 72 => (show (rawV zs).size = (rawV zero72).size by rw [rawV_size, rawV_size, h]; rfl))
  have HIN := Lib.hid (fun zs : List UInt8 => fun h : zs.length = 72 => (show (Try.prog.info? 40).map (·.size) = some (rawV zs).size by rw [rawV_size, h]; exact infoRaw2))
  have HLX := Lib.hid lx
  obtain ⟨b0, hb0⟩ : ∃ b0, w.heap.size = b0 := ⟨_, rfl⟩
  have HB0 := Lib.hid hb0
  have OW := Lib.hid (Own.start b0 w)
  have OZ := Lib.hid (And.intro hb0 (Nat.le_refl b0))
  clear lx hb0
  have HSN2 := Lib.hid (HIN.out _ lc)
  have HNZ := Lib.hid (HNS.out _ lc)
  have HN1 := Lib.hid (rawV_one (chipB mode xs chip v))
  clear lc
  rcases modes mode with rfl | rfl | ⟨h1, h2⟩
  · have HALL := Lib.hid (show chR 9 chip v xs 72 = chipB 1 xs chip v from chR_all (.inl rfl) HLX.out)
    rw [show chN 1 = 9 from rfl, show ((9 : Nat) : Int) = 9 from rfl] at HRC
    refine (callsIn_wide (n := 6)).1 ?_
    refine callsIn_of_wp_marks Try.func68 rfl trivial ?_ rfl
    simp only [Try.ntmps68, List.size_toArray, List.length_cons, List.length_nil, Nat.reduceAdd, Nat.reduceSub, Array.replicate_succ, Array.replicate_zero, List.push_toArray, List.append_toArray, List.nil_append, List.cons_append]
    gi_wp2_with (first
      | (refine own_box 40 (.tmp 1) rfl rfl (.agg (rawV xs)) rfl (rawV xs) rfl OW OZ ?_; clear OW OZ; intro W OW OZ)
      | (refine own_alloc 40 rfl rfl _ alRaw2 OW OZ ?_; clear OW OZ; intro W OW OZ))
    refine ⟨trivial, ?_⟩
    refine (callsIn_wide.2 (HRC.out _)).mono ?_
    rintro e W1 ⟨rfl, rfl⟩
    gi_wp2
    gi_loopw [10] (fun i wr => ∃ j : Nat, j ≤ 72 ∧ i = .int .i64 j ∧ Own b0 w [cellsO b0 40 (rawV (chR 9 chip v xs j)), cellsO (b0 + 1) 40 (rawV zero72)] wr) (fun i _ => 72 - (intOf i).toNat)
    case atStart => exact ⟨0, by omega, rfl, by rw [chR_zero HLX.out]; exact OW.out⟩
    case round =>
      obtain ⟨j, hj, rfl, hO⟩ := hrel
      clear OW OZ
      have OW := Lib.hid hO
      obtain ⟨G, OZ⟩ := own_size OW HB0
      clear hO
      by_cases hl : j < 72
      · have t1 : Int.tmod (j : Int) 9 = ((j % 9 : Nat) : Int) := rfl
        by_cases hc : ((j % 9 : Nat) : Int) = chip
        · have q1 : (((j % 9 : Nat) : Int) == chip) = true := by rw [beq_iff_eq]; exact hc
          have HST := Lib.hid (chR_set (v := v) (xs := xs) hl hc)
          have e1 := (OW.out.blk (k := 0) rfl).cell j
          rw [rawV_get _ (by rw [chR_len]; exact hl)] at e1
          have f1 := (OW.out.blk (k := 0) rfl).frozen j
          obtain ⟨x, hx⟩ : ∃ x, ((chR 9 chip v xs j).getD j 0).toNat = x := ⟨_, rfl⟩
          rw [hx] at e1
          obtain ⟨M, hM⟩ : ∃ M, j % 9 = M := ⟨_, rfl⟩
          rw [hM] at q1 t1
          clear hx hc hM
          gi_wp2
          go_roundw
          case rel =>
            have h1 := OW.out.setc (k := 0) (i := j) rfl (.int .u8 (v.toNat : Int))
            rw [rawV_set, HST.out] at h1
            exact ⟨j + 1, hl, by go_num, h1⟩
          case measure => simp [intOf]; omega
        · have q1 : (((j % 9 : Nat) : Int) == chip) = false := by rw [beq_eq_false_iff_ne]; exact hc
          have HST := Lib.hid (chR_skip (v := v) (xs := xs) hl hc)
          obtain ⟨M, hM⟩ : ∃ M, j % 9 = M := ⟨_, rfl⟩
          rw [hM] at q1 t1
          clear hc hM
          gi_wp2
          go_roundw
          case rel => exact ⟨j + 1, hl, by go_num, by rw [HST.out]; exact OW.out⟩
          case measure => simp [intOf]; omega
      · obtain rfl : j = 72 := by omega
        rw [HALL.out] at OW
        gi_wp2_with (first
          | (refine own_loadRow 0 40 (.tmp 5) rfl rfl rfl rfl _ Try.underlying40 rfl HSN2.out OW ?_)
          | (refine own_storeRow 1 40 (.tmp 8) (.tmp 29) rfl rfl rfl rfl _ rfl HNZ.out HN1.out HSN2.out _ rfl OW OZ ?_; clear OW OZ; intro W OW OZ))
        refine leaves_own [] _ (Nat.le_of_eq HB0.out) (by simpa using OW.out) ?_
        intro W' hO
        exact ⟨_, results_ownRow hO 1 rfl rfl rfl Try.underlying40 rfl HSN2.out, rfl, hO.done HB0⟩
  · have HALL := Lib.hid (show chR 36 chip v xs 72 = chipB 2 xs chip v from chR_all (.inr rfl) HLX.out)
    rw [show chN 2 = 36 from rfl, show ((36 : Nat) : Int) = 36 from rfl] at HRC
    refine (callsIn_wide (n := 6)).1 ?_
    refine callsIn_of_wp_marks Try.func68 rfl trivial ?_ rfl
    simp only [Try.ntmps68, List.size_toArray, List.length_cons, List.length_nil, Nat.reduceAdd, Nat.reduceSub, Array.replicate_succ, Array.replicate_zero, List.push_toArray, List.append_toArray, List.nil_append, List.cons_append]
    gi_wp2_with (first
      | (refine own_box 40 (.tmp 1) rfl rfl (.agg (rawV xs)) rfl (rawV xs) rfl OW OZ ?_; clear OW OZ; intro W OW OZ)
      | (refine own_alloc 40 rfl rfl _ alRaw2 OW OZ ?_; clear OW OZ; intro W OW OZ))
    refine ⟨trivial, ?_⟩
    refine (callsIn_wide.2 (HRC.out _)).mono ?_
    rintro e W1 ⟨rfl, rfl⟩
    gi_wp2
    gi_loopw [10] (fun i wr => ∃ j : Nat, j ≤ 72 ∧ i = .int .i64 j ∧ Own b0 w [cellsO b0 40 (rawV (chR 36 chip v xs j)), cellsO (b0 + 1) 40 (rawV zero72)] wr) (fun i _ => 72 - (intOf i).toNat)
    case atStart => exact ⟨0, by omega, rfl, by rw [chR_zero HLX.out]; exact OW.out⟩
    case round =>
      obtain ⟨j, hj, rfl, hO⟩ := hrel
      clear OW OZ
      have OW := Lib.hid hO
      obtain ⟨G, OZ⟩ := own_size OW HB0
      clear hO
      by_cases hl : j < 72
      · have t1 : Int.tmod (j : Int) 36 = ((j % 36 : Nat) : Int) := rfl
        by_cases hc : ((j % 36 : Nat) : Int) = chip
        · have q1 : (((j % 36 : Nat) : Int) == chip) = true := by rw [beq_iff_eq]; exact hc
          have HST := Lib.hid (chR_set (v := v) (xs := xs) hl hc)
          have e1 := (OW.out.blk (k := 0) rfl).cell j
          rw [rawV_get _ (by rw [chR_len]; exact hl)] at e1
          have f1 := (OW.out.blk (k := 0) rfl).frozen j
          obtain ⟨x, hx⟩ : ∃ x, ((chR 36 chip v xs j).getD j 0).toNat = x := ⟨_, rfl⟩
          rw [hx] at e1
          obtain ⟨M, hM⟩ : ∃ M, j % 36 = M := ⟨_, rfl⟩
          rw [hM] at q1 t1
          clear hx hc hM
          gi_wp2
          go_roundw
          case rel =>
            have h1 := OW.out.setc (k := 0) (i := j) rfl (.int .u8 (v.toNat : Int))
            rw [rawV_set, HST.out] at h1
            exact ⟨j + 1, hl, by go_num, h1⟩
          case measure => simp [intOf]; omega
        · have q1 : (((j % 36 : Nat) : Int) == chip) = false := by rw [beq_eq_false_iff_ne]; exact hc
          have HST := Lib.hid (chR_skip (v := v) (xs := xs) hl hc)
          obtain ⟨M, hM⟩ : ∃ M, j % 36 = M := ⟨_, rfl⟩
          rw [hM] at q1 t1
          clear hc hM
          gi_wp2
          go_roundw
          case rel => exact ⟨j + 1, hl, by go_num, by rw [HST.out]; exact OW.out⟩
          case measure => simp [intOf]; omega
      · obtain rfl : j = 72 := by omega
        rw [HALL.out] at OW
        gi_wp2_with (first
          | (refine own_loadRow 0 40 (.tmp 5) rfl rfl rfl rfl _ Try.underlying40 rfl HSN2.out OW ?_)
          | (refine own_storeRow 1 40 (.tmp 8) (.tmp 29) rfl rfl rfl rfl _ rfl HNZ.out HN1.out HSN2.out _ rfl OW OZ ?_; clear OW OZ; intro W OW OZ))
        refine leaves_own [] _ (Nat.le_of_eq HB0.out) (by simpa using OW.out) ?_
        intro W' hO
        exact ⟨_, results_ownRow hO 1 rfl rfl rfl Try.underlying40 rfl HSN2.out, rfl, hO.done HB0⟩
  · have hn : chN mode = 0 := by unfold chN; rw [if_neg h1, if_neg h2]
    have HE := Lib.hid (show chipB mode xs chip v = xs from chipB_out (by omega) xs v)
    rw [hn, show ((0 : Nat) : Int) = 0 from rfl] at HRC
    rw [HE.out] at HSN2 HNZ HN1 ⊢
    clear h1 h2 hn
    refine (callsIn_wide (n := 6)).1 ?_
    refine callsIn_of_wp_marks Try.func68 rfl trivial ?_ rfl
    simp only [Try.ntmps68, List.size_toArray, List.length_cons, List.length_nil, Nat.reduceAdd, Nat.reduceSub, Array.replicate_succ, Array.replicate_zero, List.push_toArray, List.append_toArray, List.nil_append, List.cons_append]
    gi_wp2_with (first
      | (refine own_box 40 (.tmp 1) rfl rfl (.agg (rawV xs)) rfl (rawV xs) rfl OW OZ ?_; clear OW OZ; intro W OW OZ)
      | (refine own_alloc 40 rfl rfl _ alRaw2 OW OZ ?_; clear OW OZ; intro W OW OZ))
    refine ⟨trivial, ?_⟩
    refine (callsIn_wide.2 (HRC.out _)).mono ?_
    rintro e W1 ⟨rfl, rfl⟩
    gi_wp2
    gi_loopw [10] (fun i wr => i = .int .i64 0 ∧ Own b0 w [cellsO b0 40 (rawV xs), cellsO (b0 + 1) 40 (rawV zero72)] wr) (fun _ _ => 0)
    case atStart => exact ⟨rfl, OW.out⟩
    case round =>
      obtain ⟨rfl, hO⟩ := hrel
      clear OW OZ
      have OW := Lib.hid hO
      obtain ⟨G, OZ⟩ := own_size OW HB0
      clear hO
      gi_wp2_with (first
        | (refine own_loadRow 0 40 (.tmp 5) rfl rfl rfl rfl _ Try.underlying40 rfl HSN2.out OW ?_)
        | (refine own_storeRow 1 40 (.tmp 8) (.tmp 29) rfl rfl rfl rfl _ rfl HNZ.out HN1.out HSN2.out _ rfl OW OZ ?_; clear OW OZ; intro W OW OZ))
      refine leaves_own [] _ (Nat.le_of_eq HB0.out) (by simpa using OW.out) ?_
      intro W' hO
      exact ⟨_, results_ownRow hO 1 rfl rfl rfl Try.underlying40 rfl HSN2.out, rfl, hO.done HB0⟩
end Go.Proofs.Ytckhkagkpldoiaa
