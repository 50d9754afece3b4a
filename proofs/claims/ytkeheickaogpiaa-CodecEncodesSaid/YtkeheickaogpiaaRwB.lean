/- Several texts in one: RawX RawT. -/
import Derived.Test.YtkeheickaogpiaaRwA
import Derived.Test.YtkeheickaogpiaaBtA
import Derived.Deep.QuietTactic
import Derived.BigQuiet
import Derived.Test.YtkeheickaogpiaaOwA
import Derived.Deep.WholeRow
import Derived.Sort.CutIn
namespace Go.Proofs.Ytkeheickaogpiaa
open Go.RowKit Go.Shelf
attribute [local go_sem] Oper.semAt_some

end Go.Proofs.Ytkeheickaogpiaa
namespace Go.Proofs.Ytkeheickaogpiaa
open Go.RowKit Go.Shelf
attribute [local go_sem] Oper.semAt_some

set_option maxRecDepth 100000 in
set_option maxHeartbeats 1000000 in
theorem rflip_any (xs : List UInt8) (lx : xs.length = 72) (b : Int) (v0 : -9223372036854775808 ≤ b) (v1 : b ≤ 9223372036854775807) (w : World) :
    Calls Try.prog 21 #[.agg (rawV xs), .int .i64 b] w fun e w' => e = .returned (.agg (rawV (flipI xs b))) ∧ Below w.heap.size w w' := by
  have lf : (flipI xs b).length = 72 := by rw [flipI_length, lx]
  have HSN := Lib.hid (show (Try.prog.info? 27).map (·.size) = some (rawV (flipI xs b)).size by rw [rawV_size, lf]; exact infoRaw)
  have HNS := Lib.hid (show (rawV (flipI xs b)).size = (rawV zero72).size by rw [rawV_size, rawV_size, lf]; rfl)
  have HN1 := Lib.hid (rawV_one (flipI xs b))
  obtain ⟨nv, hnv⟩ : ∃ nv, rawV (flipI xs b) = nv := ⟨_, rfl⟩
  rw [hnv] at HSN HNS HN1 ⊢
  have HNV := Lib.hid hnv
  clear lf hnv
  by_cases hin : 0 ≤ b ∧ b < 576
  · obtain ⟨p, rfl⟩ := Int.eq_ofNat_of_zero_le hin.1
    have hp : p / 8 < 72 := by omega
    have hfl := flipI_in (xs := xs) (p := p) (by rw [lx]; exact hp)
    have m1 := i64_and7 p (by omega)
    obtain ⟨r, hr⟩ : ∃ r, p % 8 = r := ⟨_, rfl⟩
    have hrl : r < 8 := by omega
    rw [hr] at m1 hfl
    have i1 : (p : Int) / 8 < 72 := by omega
    have hset : (rawV xs).setIfInBounds (p / 8) (.int .u8 ((xs.getD (p / 8) 0 ^^^ UInt8.ofNat (2 ^ r)).toNat : Int)) = nv := by rw [rawV_set, ← hfl]; exact HNV.out
    have HSX := Lib.hid (show (Try.prog.info? 27).map (·.size) = some (rawV xs).size by rw [rawV_size, lx]; exact infoRaw)
    have HSZ := Lib.hid (show (Try.prog.info? 27).map (·.size) = some (rawV zero72).size by rw [rawV_size]; exact infoRaw)
    have HC1 := fun j (hj : j < 72) => rawV_get xs (i := j) (by rw [lx]; exact hj)
    obtain ⟨cv, hcv⟩ : ∃ cv, rawV xs = cv := ⟨_, rfl⟩
    rw [hcv] at HSX HC1 ⊢
    have HCV := Lib.hid hcv
    have HC := Lib.hid HC1
    have HLX := Lib.hid lx
    obtain ⟨b0, hb0⟩ : ∃ b0, w.heap.size = b0 := ⟨_, rfl⟩
    have HB0 := Lib.hid hb0
    have OW := Lib.hid (Own.start b0 w)
    have OZ := Lib.hid (And.intro hb0 (Nat.le_refl b0))
    clear hcv lx hb0 HC1
    have HSET := Lib.hid hset
    have e1 := HC.out (p / 8) hp
    obtain ⟨x, hx⟩ : ∃ x, xs.getD (p / 8) 0 = x := ⟨_, rfl⟩
    rw [hx] at e1 HSET
    have hz := u8_xorF x (UInt8.ofNat (2 ^ r))
    have e2 : ((UInt8.ofNat (2 ^ r)).toNat : Int) = (2 : Int) ^ r % 256 := by rw [UInt8.toNat_ofNat']; simp
    rw [e2] at hz
    have HZ := Lib.hid hz
    have HR := Lib.hid hr
    obtain ⟨n, hn⟩ : ∃ n, x.toNat = n := ⟨_, rfl⟩
    have lx8 := x.toNat_lt
    rw [hn] at e1 HZ lx8
    clear hx hz e2 hfl hr hn hset hin
    rw [HCV.out] at HSET
    have i3 : (p : Int) < 576 := by omega
    refine (callsIn_wide (n := 6)).1 ?_
    refine callsIn_of_wp_marks Try.func21 rfl trivial ?_ rfl
    simp only [Try.ntmps21, List.size_toArray, List.length_cons, List.length_nil, Nat.reduceAdd, Nat.reduceSub, Array.replicate_succ, Array.replicate_zero, List.push_toArray, List.append_toArray, List.nil_append, List.cons_append]
    gi_upto_region 1 with (first
      | (refine own_box 27 (.tmp 0) rfl rfl (.agg cv) rfl cv rfl OW OZ ?_; clear OW OZ; intro W OW OZ)
      | (refine own_alloc 27 rfl rfl _ alRaw OW OZ ?_; clear OW OZ; intro W OW OZ))
    have e1' := ((OW.out.blk (k := 0) rfl).cell (p / 8)).trans e1
    have f1 := (OW.out.blk (k := 0) rfl).frozen (p / 8)
    clear e1
    gi_upto_region 3 with fail
    refine own_setcN (k := 0) rfl OW OZ ?_
    clear OW OZ e1' f1
    intro W OW OZ
    rw [HZ.out, HSET.out] at OW
    gi_wp2_with (first
      | (refine own_box 27 (.tmp 0) rfl rfl (.agg cv) rfl cv rfl OW OZ ?_; clear OW OZ; intro W OW OZ)
      | (refine own_alloc 27 rfl rfl _ alRaw OW OZ ?_; clear OW OZ; intro W OW OZ)
      | (refine own_loadRow 0 27 (.tmp 2) rfl rfl rfl rfl _ Try.underlying27 rfl HSN.out OW ?_)
      | (refine own_storeRow 1 27 (.tmp 4) (.tmp 21) rfl rfl rfl rfl nv rfl HNS.out HN1.out HSN.out _ rfl OW OZ ?_; clear OW OZ; intro W OW OZ))
    refine leaves_own [] _ (Nat.le_of_eq HB0.out) (by simpa using OW.out) ?_
    intro W' hO
    exact ⟨_, results_ownRow hO 1 rfl rfl rfl Try.underlying27 rfl HSN.out, rfl, hO.done HB0⟩
  · have HE := Lib.hid (show flipI xs b = xs from flipI_out (by rw [lx]; omega))
    have HSX := Lib.hid (show (Try.prog.info? 27).map (·.size) = some (rawV xs).size by rw [rawV_size, lx]; exact infoRaw)
    have HSZ := Lib.hid (show (Try.prog.info? 27).map (·.size) = some (rawV zero72).size by rw [rawV_size]; exact infoRaw)
    have HC1 := fun j (hj : j < 72) => rawV_get xs (i := j) (by rw [lx]; exact hj)
    obtain ⟨cv, hcv⟩ : ∃ cv, rawV xs = cv := ⟨_, rfl⟩
    rw [hcv] at HSX HC1 ⊢
    have HCV := Lib.hid hcv
    have HC := Lib.hid HC1
    have HLX := Lib.hid lx
    obtain ⟨b0, hb0⟩ : ∃ b0, w.heap.size = b0 := ⟨_, rfl⟩
    have HB0 := Lib.hid hb0
    have OW := Lib.hid (Own.start b0 w)
    have OZ := Lib.hid (And.intro hb0 (Nat.le_refl b0))
    clear hcv lx hb0 HC1
    have HNC := Lib.hid (show cv = nv by rw [← HNV.out, ← HCV.out, HE.out])
    rw [HNC.out]
    rw [HNC.out] at HSX
    clear HC HCV
    obtain ⟨cv, hcv⟩ : ∃ cv, nv = cv := ⟨_, rfl⟩
    subst hcv
    by_cases h0 : 0 ≤ b
    · have h1 : 576 ≤ b := by omega
      clear hin
      refine (callsIn_wide (n := 6)).1 ?_
      refine callsIn_of_wp_marks Try.func21 rfl trivial ?_ rfl
      simp only [Try.ntmps21, List.size_toArray, List.length_cons, List.length_nil, Nat.reduceAdd, Nat.reduceSub, Array.replicate_succ, Array.replicate_zero, List.push_toArray, List.append_toArray, List.nil_append, List.cons_append]
      gi_wp2_with (first
        | (refine own_box 27 (.tmp 0) rfl rfl (.agg nv) rfl nv rfl OW OZ ?_; clear OW OZ; intro W OW OZ)
        | (refine own_alloc 27 rfl rfl _ alRaw OW OZ ?_; clear OW OZ; intro W OW OZ)
        | (refine own_loadRow 0 27 (.tmp 2) rfl rfl rfl rfl _ Try.underlying27 rfl HSN.out OW ?_)
        | (refine own_storeRow 1 27 (.tmp 4) (.tmp 21) rfl rfl rfl rfl nv rfl HNS.out HN1.out HSN.out _ rfl OW OZ ?_; clear OW OZ; intro W OW OZ))
      refine leaves_own [] _ (Nat.le_of_eq HB0.out) (by simpa using OW.out) ?_
      intro W' hO
      exact ⟨_, results_ownRow hO 1 rfl rfl rfl Try.underlying27 rfl HSN.out, rfl, hO.done HB0⟩
    · clear hin
      refine (callsIn_wide (n := 6)).1 ?_
      refine callsIn_of_wp_marks Try.func21 rfl trivial ?_ rfl
      simp only [Try.ntmps21, List.size_toArray, List.length_cons, List.length_nil, Nat.reduceAdd, Nat.reduceSub, Array.replicate_succ, Array.replicate_zero, List.push_toArray, List.append_toArray, List.nil_append, List.cons_append]
      gi_wp2_with (first
        | (refine own_box 27 (.tmp 0) rfl rfl (.agg nv) rfl nv rfl OW OZ ?_; clear OW OZ; intro W OW OZ)
        | (refine own_alloc 27 rfl rfl _ alRaw OW OZ ?_; clear OW OZ; intro W OW OZ)
        | (refine own_loadRow 0 27 (.tmp 2) rfl rfl rfl rfl _ Try.underlying27 rfl HSN.out OW ?_)
        | (refine own_storeRow 1 27 (.tmp 4) (.tmp 21) rfl rfl rfl rfl nv rfl HNS.out HN1.out HSN.out _ rfl OW OZ ?_; clear OW OZ; intro W OW OZ))
      refine leaves_own [] _ (Nat.le_of_eq HB0.out) (by simpa using OW.out) ?_
      intro W' hO
      exact ⟨_, results_ownRow hO 1 rfl rfl rfl Try.underlying27 rfl HSN.out, rfl, hO.done HB0⟩
end Go.Proofs.Ytkeheickaogpiaa
