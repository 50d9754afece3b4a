/- raw's Force and Whose, the reference's Force and Chip: walks. -/
import Derived.Test.YtckhkagkpldoiaaRawT
import Derived.Test.YtckhkagkpldoiaaRawM
import Derived.Test.YtckhkagkpldoiaaRawQ
namespace Go.Proofs.Ytckhkagkpldoiaa
open Go.RowKit Go.Shelf
attribute [local go_sem] Oper.semAt_some

theorem infoRaw2 : (Try.prog.info? 40).map (·.size) = some 72 := by kernel_rfl
theorem alRaw2 : ∀ w : World, (Instr.alloc 40 true (.tuple #[])).run Try.prog w = .ok (.pointer (some ⟨w.heap.size, 0, none⟩)) (w.alloc (.cells (rawV zero72) 40)) := fun _ => by kernel_rfl

set_option maxRecDepth 100000 in
set_option maxHeartbeats 1000000 in
theorem rforce_any (xs : List UInt8) (lx : xs.length = 72) (b v : Int) (v0 : -9223372036854775808 ≤ b) (v1 : b ≤ 9223372036854775807) (w : World) :
    Calls Try.prog 66 #[.agg (rawV xs), .int .i64 b, .int .i64 v] w fun e w' => e = .returned (.agg (rawV (forceI xs b v))) ∧ Below w.heap.size w w' := by
  have HFL := Lib.hid (fun W => rflip_any xs lx b v0 v1 W)
  have HGT := Lib.hid (fun A W h => get_any A 72 72 xs lx b v0 v1 W h)
  have m1 := i64_and1L v
  by_cases hb : bitI xs b = lowI v
  · have HE := Lib.hid (show forceI xs b v = xs from if_pos hb)
    rw [HE.out]
    rw [hb] at HGT
    obtain ⟨L, hL⟩ : ∃ L, lowI v = L := ⟨_, rfl⟩
    rw [hL] at m1 HGT
    clear hb hL
    have HSX := Lib.hid (show (Try.prog.info? 41).map (·.size) = some (rawV xs).size by rw [rawV_size, lx]; exact infoRaw)
    have HSX2 := Lib.hid (show (Try.prog.info? 40).map (·.size) = some (rawV xs).size by rw [rawV_size, lx]; exact infoRaw2)
    have HC1 := fun j (hj : j < 72) => rawV_get xs (i := j) (by rw [lx]; exact hj)
    obtain ⟨cv, hcv⟩ : ∃ cv, rawV xs = cv := ⟨_, rfl⟩
    rw [hcv] at HSX HSX2 HC1 ⊢
    have HCV := Lib.hid hcv
    have HC := Lib.hid HC1
    have HLX := Lib.hid lx
    obtain ⟨b0, hb0⟩ : ∃ b0, w.heap.size = b0 := ⟨_, rfl⟩
    have HB0 := Lib.hid hb0
    have OW := Lib.hid (Own.start b0 w)
    have OZ := Lib.hid (And.intro hb0 (Nat.le_refl b0))
    clear hcv lx hb0 HC1
    have HNS := Lib.hid (show cv.size = (rawV zero72).size by rw [← HCV.out, rawV_size, rawV_size, HLX.out]; rfl)
    have HN1 := Lib.hid (show cv.all (·.oneCell') = true by rw [← HCV.out]; exact rawV_one xs)
    have hsl := rawSlice_all b0
    refine (callsIn_wide (n := 6)).1 ?_
    refine callsIn_of_wp_marks Try.func66 rfl trivial ?_ rfl
    simp only [Try.ntmps66, List.size_toArray, List.length_cons, List.length_nil, Nat.reduceAdd, Nat.reduceSub, Array.replicate_succ, Array.replicate_zero, List.push_toArray, List.append_toArray, List.nil_append, List.cons_append]
    gi_wp2_with (first
      | (refine own_box 41 (.tmp 0) rfl rfl (.agg cv) rfl cv rfl OW OZ ?_; clear OW OZ; intro W OW OZ)
      | (refine own_alloc 41 rfl rfl _ alRaw OW OZ ?_; clear OW OZ; intro W OW OZ))
    refine ⟨trivial, ?_⟩
    refine (callsIn_wide.2 (HGT.out _ _ (RdB.ofBlk (OW.out.blk (k := 0) rfl) (fun k hk => HC.out k (by rw [HLX.out] at hk; exact hk))))).mono ?_
    rintro e W1 ⟨rfl, rfl⟩
    gi_wp2_with (first
      | (refine own_loadRow 0 41 (.tmp 3) rfl rfl rfl rfl _ Try.underlying41 rfl HSX.out OW ?_)
      | (refine own_storeRow 1 41 (.tmp 6) (.tmp 16) rfl rfl rfl rfl cv rfl HNS.out HN1.out HSX.out _ rfl OW OZ ?_; clear OW OZ; intro W OW OZ))
    refine leaves_own [] _ (Nat.le_of_eq HB0.out) (by simpa using OW.out) ?_
    intro W' hO
    exact ⟨_, results_ownRow hO 1 rfl rfl rfl Try.underlying41 rfl HSX.out, rfl, hO.done HB0⟩
  · have HE := Lib.hid (show forceI xs b v = flipI xs b from if_neg hb)
    rw [HE.out]
    have lf : (flipI xs b).length = 72 := by rw [flipI_length, lx]
    have HSN := Lib.hid (show (Try.prog.info? 41).map (·.size) = some (rawV (flipI xs b)).size by rw [rawV_size, lf]; exact infoRaw)
    have HSN2 := Lib.hid (show (Try.prog.info? 40).map (·.size) = some (rawV (flipI xs b)).size by rw [rawV_size, lf]; exact infoRaw2)
    have HNS := Lib.hid (show (rawV (flipI xs b)).size = (rawV zero72).size by rw [rawV_size, rawV_size, lf]; rfl)
    have HN1 := Lib.hid (rawV_one (flipI xs b))
    obtain ⟨nv, hnv⟩ : ∃ nv, rawV (flipI xs b) = nv := ⟨_, rfl⟩
    rw [hnv] at HSN HSN2 HNS HN1 ⊢
    have HNV := Lib.hid hnv
    clear lf hnv
    rw [HNV.out] at HFL
    obtain ⟨L, hL⟩ : ∃ L, lowI v = L := ⟨_, rfl⟩
    obtain ⟨M, hM⟩ : ∃ L, bitI xs b = L := ⟨_, rfl⟩
    rw [hL] at m1 hb
    rw [hM] at HGT hb
    have q1 : ((M : Int) != (L : Int)) = true := by rw [bne_iff_ne]; omega
    clear hb hL hM
    have HSX := Lib.hid (show (Try.prog.info? 41).map (·.size) = some (rawV xs).size by rw [rawV_size, lx]; exact infoRaw)
    have HSX2 := Lib.hid (show (Try.prog.info? 40).map (·.size) = some (rawV xs).size by rw [rawV_size, lx]; exact infoRaw2)
    have HC1 := fun j (hj : j < 72) => rawV_get xs (i := j) (by rw [lx]; exact hj)
    obtain ⟨cv, hcv⟩ : ∃ cv, rawV xs = cv := ⟨_, rfl⟩
    rw [hcv] at HSX HSX2 HC1 ⊢
    have HCV := Lib.hid hcv
    have HC := Lib.hid HC1
    have HLX := Lib.hid lx
    obtain ⟨b0, hb0⟩ : ∃ b0, w.heap.size = b0 := ⟨_, rfl⟩
    have HB0 := Lib.hid hb0
    have OW := Lib.hid (Own.start b0 w)
    have OZ := Lib.hid (And.intro hb0 (Nat.le_refl b0))
    clear hcv lx hb0 HC1
    rw [HCV.out] at HFL
    have hsl := rawSlice_all b0
    refine (callsIn_wide (n := 6)).1 ?_
    refine callsIn_of_wp_marks Try.func66 rfl trivial ?_ rfl
    simp only [Try.ntmps66, List.size_toArray, List.length_cons, List.length_nil, Nat.reduceAdd, Nat.reduceSub, Array.replicate_succ, Array.replicate_zero, List.push_toArray, List.append_toArray, List.nil_append, List.cons_append]
    gi_wp2_with (first
      | (refine own_box 41 (.tmp 0) rfl rfl (.agg cv) rfl cv rfl OW OZ ?_; clear OW OZ; intro W OW OZ)
      | (refine own_alloc 41 rfl rfl _ alRaw OW OZ ?_; clear OW OZ; intro W OW OZ))
    refine ⟨trivial, ?_⟩
    refine (callsIn_wide.2 (HGT.out _ _ (RdB.ofBlk (OW.out.blk (k := 0) rfl) (fun k hk => HC.out k (by rw [HLX.out] at hk; exact hk))))).mono ?_
    rintro e W1 ⟨rfl, rfl⟩
    gi_wp2_with (first
      | (refine own_loadRow 0 41 (.tmp 3) rfl rfl rfl rfl _ Try.underlying41 rfl HSX.out OW ?_))
    refine ⟨trivial, ?_⟩
    refine (callsIn_wide.2 (HFL.out _)).mono ?_
    rintro e W2 ⟨rfl, hbw⟩
    obtain ⟨g1, OW2, OZ2⟩ := own_call OW OZ hbw
    clear hbw OW OZ
    have OW := OW2
    have OZ := OZ2
    clear OW2 OZ2
    gi_wp2_with (first
      | (refine own_storeRow 1 41 (.tmp 6) (.tmp 15) rfl rfl rfl rfl nv rfl HNS.out HN1.out HSN.out _ rfl OW OZ ?_; clear OW OZ; intro W OW OZ))
    refine leaves_own [] _ (Nat.le_of_eq HB0.out) (by simpa using OW.out) ?_
    intro W' hO
    exact ⟨_, results_ownRow hO 1 rfl rfl rfl Try.underlying41 rfl HSN.out, rfl, hO.done HB0⟩
end Go.Proofs.Ytckhkagkpldoiaa
