/- The reference's Force: a walk; what a flip exposes. -/
import Derived.Test.YtckhkagkpldoiaaRawT3
namespace Go.Proofs.Ytckhkagkpldoiaa
open Go.RowKit Go.Shelf
attribute [local go_sem] Oper.semAt_some

theorem flip_get {xs : List UInt8} (lx : xs.length = 72) {p : Nat} (hp : p < 576) {i : Nat} : (flipI xs (p : Int)).getD i 0 = if i = p / 8 then xs.getD (p / 8) 0 ^^^ UInt8.ofNat (2 ^ (p % 8)) else xs.getD i 0 := by
  rw [flipI_in (by omega), set_getD (by omega)]
theorem cst_flip (mode : Int) (x : UInt8) {r : Nat} (h : r < 8) : cst mode (x ^^^ UInt8.ofNat (2 ^ r)) x = 1 := by
  have hz : (x ^^^ UInt8.ofNat (2 ^ r) ^^^ x).toNat = 2 ^ r := by
    have := pow8 h
    rw [UInt8.toNat_xor, flip_byte x h, Nat.xor_comm x.toNat, Nat.xor_assoc, Nat.xor_self, Nat.xor_zero]
  unfold cst
  split
  · rw [hz]
    have : ∀ r, r < 8 → pc (2 ^ r) = 1 := by decide +kernel
    exact this r h
  · rw [if_neg]
    intro e
    have h2 := flip_byte x h
    rw [e] at h2
    have h3 : 2 ^ r = 0 := by
      have h4 := congrArg (fun z => x.toNat ^^^ z) h2
      simp only [Nat.xor_self, ← Nat.xor_assoc, Nat.zero_xor] at h4
      omega
    have := Nat.pos_of_ne_zero (n := 2 ^ r) (by have := Nat.one_le_two_pow (n := r); omega)
    omega
theorem flip_expo {mode : Int} (hm : mode = 1 ∨ mode = 2) {xs : List UInt8} (lx : xs.length = 72) {p : Nat} (hp : p < 576) : expo mode (flipI xs (p : Int)) xs = 1 := by
  have lf : (flipI xs (p : Int)).length = 72 := by rw [flipI_length, lx]
  obtain ⟨p1, p2, p3⟩ := place_of hm (show p / 8 < 72 by omega)
  have h1 : expo mode (flipI xs (p : Int)) xs ≤ 1 := by
    refine (expo_le_iff lf lx).2 fun k hk => ?_
    obtain ⟨_, hf, _⟩ := mode_fit hk
    unfold wC
    rw [sumN_one (c := p / 8 % chN mode)]
    · rw [if_pos p2, flip_get lx hp]
      split
      · rename_i e
        rw [e, cst_flip mode _ (by omega)]
        exact Nat.le_refl _
      · rw [cst_self]; omega
    · intro j hj hne
      rw [flip_get lx hp, if_neg, cst_self]
      intro e
      apply hne
      rw [← e, Nat.mul_add_mod, Nat.mod_eq_of_lt hj]
  have h2 : expo mode (flipI xs (p : Int)) xs ≠ 0 := fun h => by
    have h3 := (expo_zero hm lf lx).1 h
    have h4 := flip_get lx hp (i := p / 8)
    rw [h3, if_pos rfl] at h4
    have h5 := cst_flip 2 (xs.getD (p / 8) 0) (r := p % 8) (by omega)
    rw [← h4, cst_self] at h5
    omega
  omega
theorem force_out {xs : List UInt8} (lx : xs.length = 72) {b : Int} (h : ¬ (0 ≤ b ∧ b < 576)) (v : Int) : forceI xs b v = xs := by
  unfold forceI
  split
  · rfl
  · exact flipI_out (by rw [lx]; omega)
theorem force_flip {xs : List UInt8} {b : Int} : forceI xs b (1 - (bitI xs b : Int)) = flipI xs b := by
  unfold forceI
  rw [if_neg]
  have := bitI_lt xs b
  unfold lowI
  omega

set_option maxRecDepth 100000 in
set_option maxHeartbeats 1000000 in
theorem refForce_any (xs : List UInt8) (lx : xs.length = 72) (b v : Int) (v0 : -9223372036854775808 ≤ b) (v1 : b ≤ 9223372036854775807) (w : World) :
    Calls Try.prog 37 #[.agg (rawV xs), .int .i64 b, .int .i64 v] w fun e w' => e = .returned (.agg (rawV (forceI xs b v))) ∧ Below w.heap.size w w' := by
  have lf : (forceI xs b v).length = 72 := by rw [forceI_len, lx]
  have HSX2 := Lib.hid (show (Try.prog.info? 40).map (·.size) = some (rawV xs).size by rw [rawV_size, lx]; exact infoRaw2)
  have HSN2 := Lib.hid (show (Try.prog.info? 40).map (·.size) = some (rawV (forceI xs b v)).size by rw [rawV_size, lf]; exact infoRaw2)
  have HNS := Lib.hid (show (rawV (forceI xs b v)).size = (rawV zero72).size by rw [rawV_size, rawV_size, lf]; rfl)
  have HN1 := Lib.hid (rawV_one (forceI xs b v))
  have HC := Lib.hid (fun j (hj : j < 72) => rawV_get xs (i := j) (by rw [lx]; exact hj))
  obtain ⟨b0, hb0⟩ : ∃ b0, w.heap.size = b0 := ⟨_, rfl⟩
  have HB0 := Lib.hid hb0
  have OW := Lib.hid (Own.start b0 w)
  have OZ := Lib.hid (And.intro hb0 (Nat.le_refl b0))
  by_cases hin : 0 ≤ b ∧ b < 576
  · obtain ⟨p, rfl⟩ := Int.eq_ofNat_of_zero_le hin.1
    have hp : p < 576 := by omega
    have hset : forceI xs (p : Int) v = xs.set (p / 8) (if bitI xs (p : Int) = lowI v then xs.getD (p / 8) 0 else xs.getD (p / 8) 0 ^^^ UInt8.ofNat (2 ^ (p % 8))) := by
      unfold forceI
      split
      · refine eq72 lx (by rw [List.length_set, lx]) fun i hi => ?_
        rw [set_getD (by omega)]
        split
        · rename_i e; rw [e]
        · rfl
      · exact flipI_in (by omega)
    have hbit := bitI_nat xs p
    have hfb := flip_byte (xs.getD (p / 8) 0) (r := p % 8) (by omega)
    obtain ⟨x, hx⟩ : ∃ x, xs.getD (p / 8) 0 = x := ⟨_, rfl⟩
    have e0 := HC.out (p / 8) (by omega)
    rw [hx] at hset hbit hfb e0
    have m1 := i64_and1L v
    have hLl := lowI_lt v
    obtain ⟨L, hL⟩ : ∃ L, lowI v = L := ⟨_, rfl⟩
    obtain ⟨M, hM⟩ : ∃ L, bitI xs (p : Int) = L := ⟨_, rfl⟩
    rw [hL] at m1 hset hLl
    rw [hM] at hset hbit
    obtain ⟨r, hr⟩ : ∃ r, p % 8 = r := ⟨_, rfl⟩
    have hrl : r < 8 := by omega
    rw [hr] at hset hbit hfb
    have hpw := pow8 hrl
    have hp1 := Nat.one_le_two_pow (n := r)
    have hxl := x.toNat_lt
    have hfn := flip_num x.toNat hxl r hrl
    have hfo := flip_lo x.toNat hxl r hrl
    have lf8 : (x ^^^ UInt8.ofNat (2 ^ r)).toNat < 256 := UInt8.toNat_lt _
    have t1 : Int.tmod (p : Int) 8 = (r : Int) := by rw [← hr]; rfl
    have i1 : (p : Int) / 8 < 72 := by omega
    have i2 : (p : Int) ≤ 575 := by omega
    have hst : ∀ z : UInt8, (rawV xs).setIfInBounds (p / 8) (.int .u8 (z.toNat : Int)) = rawV (xs.set (p / 8) z) := fun z => rawV_set xs (p / 8) z
    obtain ⟨nv, hnv⟩ : ∃ nv, rawV (forceI xs (p : Int) v) = nv := ⟨_, rfl⟩
    rw [hnv] at HSN2 HNS HN1 ⊢
    have hS := fun (z : UInt8) (hz : forceI xs (p : Int) v = xs.set (p / 8) z) => (show (rawV xs).setIfInBounds (p / 8) (.int .u8 (z.toNat : Int)) = nv by rw [hst, ← hz]; exact hnv)
    obtain ⟨cv, hcv⟩ : ∃ cv, rawV xs = cv := ⟨_, rfl⟩
    rw [hcv] at HC HSX2 e0 hS ⊢
    have HLR := Lib.hid (show ∀ k : Nat, 2 ^ (k + 1) = 2 ^ k * 2 from fun k => Nat.pow_succ 2 k)
    have HK := Lib.hid (fun k (hk : k ≤ r) => (show 2 ^ k ≤ 128 from Nat.le_trans (Nat.pow_le_pow_right (by omega) hk) hpw))
    obtain ⟨P, hP⟩ : ∃ P, 2 ^ r = P := ⟨_, rfl⟩
    have HP := Lib.hid hP
    rw [hP] at hbit hfb hpw hp1 hfn hfo
    have hfb' : (x ^^^ UInt8.ofNat (2 ^ r)).toNat = x.toNat ^^^ P := by rw [← hP] at hfb; rw [← hP]; exact hfb
    rw [← hfb'] at hfn
    obtain ⟨y, hy⟩ : ∃ y, x ^^^ UInt8.ofNat (2 ^ r) = y := ⟨_, rfl⟩
    have hset' : forceI xs (p : Int) v = xs.set (p / 8) (if M = L then x else y) := by rw [hset, ← hy]
    rw [hy] at hfn
    have hSM := hS _ hset'
    obtain ⟨n, hn⟩ : ∃ n, x.toNat = n := ⟨_, rfl⟩
    obtain ⟨m, hm⟩ : ∃ n, y.toNat = n := ⟨_, rfl⟩
    rw [hn] at hbit hfn hfo e0 hxl
    rw [hm] at hfn
    obtain ⟨Q, hQ⟩ : ∃ Q, n / P = Q := ⟨_, rfl⟩
    rw [hQ] at hbit hfn hfo
    have t2 : Int.tdiv (n : Int) (P : Int) = (Q : Int) := by rw [← hQ]; rfl
    have t3 : (n : Int) / (P : Int) = (Q : Int) := by rw [← hQ]; rfl
    have t4 : Int.tmod (Q : Int) 2 = (M : Int) := by rw [hbit]; rfl
    have t5 : (Q : Int) % 2 = (M : Int) := by rw [hbit]; rfl
    have hQl : Q ≤ 256 := by rw [← hQ]; exact Nat.le_trans (Nat.div_le_self _ _) (by omega)
    have hMl : M < 2 := by omega
    have HNM := Lib.hid (And.intro hn hm)
    clear hcv lx hb0 lf hset hset' hS hst hnv hy hQ hx hL hM hr hfb hfb' hP lf8 hin hn hm
    rcases (show M = 0 ∨ M = 1 by omega) with rfl | rfl
    · have hfn' : m = n + P := by rw [hfn, if_neg (by omega)]
      have hb := hfo.2 (by omega)
      rcases (show L = 0 ∨ L = 1 by omega) with rfl | rfl
      · rw [if_pos rfl, HNM.out.1] at hSM
        have HSM := Lib.hid hSM
        have HFN := Lib.hid hfn'
        clear hSM hfn hfo hfn' hbit hLl hMl
        refine (callsIn_wide (n := 6)).1 ?_
        refine callsIn_of_wp_marks Try.func37 rfl trivial ?_ rfl
        simp only [Try.ntmps37, List.size_toArray, List.length_cons, List.length_nil, Nat.reduceAdd, Nat.reduceSub, Array.replicate_succ, Array.replicate_zero, List.push_toArray, List.append_toArray, List.nil_append, List.cons_append]
        gi_upto_region 1 with (first
          | (refine own_box 40 (.tmp 0) rfl rfl (.agg cv) rfl cv rfl OW OZ ?_; clear OW OZ; intro W OW OZ)
          | (refine own_alloc 40 rfl rfl _ alRaw2 OW OZ ?_; clear OW OZ; intro W OW OZ))
        have e1 := ((OW.out.blk (k := 0) rfl).cell (p / 8)).trans e0
        have f1 := (OW.out.blk (k := 0) rfl).frozen (p / 8)
        clear e0
        gi_wp2
        gi_loop [7, 8] (fun q i => ∃ k : Nat, k ≤ r ∧ i = .int .i64 k ∧ q = .int .i64 ((2 ^ k : Nat) : Int)) (fun _ i => r - (intOf i).toNat)
        case atStart => exact ⟨0, by omega, rfl, rfl⟩
        case round =>
          obtain ⟨k, hk, rfl, rfl⟩ := hrel
          have hkb := HK.out k hk
          by_cases hl : k < r
          · have hk2 := HLR.out k
            obtain ⟨q, hq⟩ : ∃ q, 2 ^ k = q := ⟨_, rfl⟩
            rw [hq] at hk2 hkb ⊢
            have HQ2 := Lib.hid hk2
            clear hk2 hq
            gi_wp2
            go_round
            case rel => exact ⟨k + 1, hl, by go_num, by rw [HQ2.out]; go_num⟩
            case measure => simp only [intOf]; omega
          · obtain rfl : k = r := by omega
            rw [HP.out]
            clear hkb
            gi_upto_region 14 with fail
            refine own_setcN (k := 0) rfl OW OZ ?_
            clear OW OZ e1 f1
            intro W OW OZ
            rw [show ((n : Int) : Int) = ((n : Int) : Int) by have := HFN.out; omega, HSM.out] at OW
            gi_wp2_with (first
              | (refine own_loadRow 0 40 (.tmp 3) rfl rfl rfl rfl _ Try.underlying40 rfl HSN2.out OW ?_)
              | (refine own_storeRow 1 40 (.tmp 6) (.tmp 49) rfl rfl rfl rfl nv rfl HNS.out HN1.out HSN2.out _ rfl OW OZ ?_; clear OW OZ; intro W OW OZ))
            refine leaves_own [] _ (Nat.le_of_eq HB0.out) (by simpa using OW.out) ?_
            intro W' hO
            exact ⟨_, results_ownRow hO 1 rfl rfl rfl Try.underlying40 rfl HSN2.out, rfl, hO.done HB0⟩
      · rw [if_neg (by omega), HNM.out.2] at hSM
        have HSM := Lib.hid hSM
        have HFN := Lib.hid hfn'
        clear hSM hfn hfo hfn' hbit hLl hMl
        refine (callsIn_wide (n := 6)).1 ?_
        refine callsIn_of_wp_marks Try.func37 rfl trivial ?_ rfl
        simp only [Try.ntmps37, List.size_toArray, List.length_cons, List.length_nil, Nat.reduceAdd, Nat.reduceSub, Array.replicate_succ, Array.replicate_zero, List.push_toArray, List.append_toArray, List.nil_append, List.cons_append]
        gi_upto_region 1 with (first
          | (refine own_box 40 (.tmp 0) rfl rfl (.agg cv) rfl cv rfl OW OZ ?_; clear OW OZ; intro W OW OZ)
          | (refine own_alloc 40 rfl rfl _ alRaw2 OW OZ ?_; clear OW OZ; intro W OW OZ))
        have e1 := ((OW.out.blk (k := 0) rfl).cell (p / 8)).trans e0
        have f1 := (OW.out.blk (k := 0) rfl).frozen (p / 8)
        clear e0
        gi_wp2
        gi_loop [7, 8] (fun q i => ∃ k : Nat, k ≤ r ∧ i = .int .i64 k ∧ q = .int .i64 ((2 ^ k : Nat) : Int)) (fun _ i => r - (intOf i).toNat)
        case atStart => exact ⟨0, by omega, rfl, rfl⟩
        case round =>
          obtain ⟨k, hk, rfl, rfl⟩ := hrel
          have hkb := HK.out k hk
          by_cases hl : k < r
          · have hk2 := HLR.out k
            obtain ⟨q, hq⟩ : ∃ q, 2 ^ k = q := ⟨_, rfl⟩
            rw [hq] at hk2 hkb ⊢
            have HQ2 := Lib.hid hk2
            clear hk2 hq
            gi_wp2
            go_round
            case rel => exact ⟨k + 1, hl, by go_num, by rw [HQ2.out]; go_num⟩
            case measure => simp only [intOf]; omega
          · obtain rfl : k = r := by omega
            rw [HP.out]
            clear hkb
            gi_upto_region 14 with fail
            refine own_setcN (k := 0) rfl OW OZ ?_
            clear OW OZ e1 f1
            intro W OW OZ
            rw [show ((n : Int) + (P : Int) : Int) = ((m : Int) : Int) by have := HFN.out; omega, HSM.out] at OW
            gi_wp2_with (first
              | (refine own_loadRow 0 40 (.tmp 3) rfl rfl rfl rfl _ Try.underlying40 rfl HSN2.out OW ?_)
              | (refine own_storeRow 1 40 (.tmp 6) (.tmp 49) rfl rfl rfl rfl nv rfl HNS.out HN1.out HSN2.out _ rfl OW OZ ?_; clear OW OZ; intro W OW OZ))
            refine leaves_own [] _ (Nat.le_of_eq HB0.out) (by simpa using OW.out) ?_
            intro W' hO
            exact ⟨_, results_ownRow hO 1 rfl rfl rfl Try.underlying40 rfl HSN2.out, rfl, hO.done HB0⟩
    · have hfn' : m = n - P := by rw [hfn, if_pos (by omega)]
      have hb := hfo.1 (by omega)
      rcases (show L = 0 ∨ L = 1 by omega) with rfl | rfl
      · rw [if_neg (by omega), HNM.out.2] at hSM
        have HSM := Lib.hid hSM
        have HFN := Lib.hid hfn'
        clear hSM hfn hfo hfn' hbit hLl hMl
        refine (callsIn_wide (n := 6)).1 ?_
        refine callsIn_of_wp_marks Try.func37 rfl trivial ?_ rfl
        simp only [Try.ntmps37, List.size_toArray, List.length_cons, List.length_nil, Nat.reduceAdd, Nat.reduceSub, Array.replicate_succ, Array.replicate_zero, List.push_toArray, List.append_toArray, List.nil_append, List.cons_append]
        gi_upto_region 1 with (first
          | (refine own_box 40 (.tmp 0) rfl rfl (.agg cv) rfl cv rfl OW OZ ?_; clear OW OZ; intro W OW OZ)
          | (refine own_alloc 40 rfl rfl _ alRaw2 OW OZ ?_; clear OW OZ; intro W OW OZ))
        have e1 := ((OW.out.blk (k := 0) rfl).cell (p / 8)).trans e0
        have f1 := (OW.out.blk (k := 0) rfl).frozen (p / 8)
        clear e0
        gi_wp2
        gi_loop [7, 8] (fun q i => ∃ k : Nat, k ≤ r ∧ i = .int .i64 k ∧ q = .int .i64 ((2 ^ k : Nat) : Int)) (fun _ i => r - (intOf i).toNat)
        case atStart => exact ⟨0, by omega, rfl, rfl⟩
        case round =>
          obtain ⟨k, hk, rfl, rfl⟩ := hrel
          have hkb := HK.out k hk
          by_cases hl : k < r
          · have hk2 := HLR.out k
            obtain ⟨q, hq⟩ : ∃ q, 2 ^ k = q := ⟨_, rfl⟩
            rw [hq] at hk2 hkb ⊢
            have HQ2 := Lib.hid hk2
            clear hk2 hq
            gi_wp2
            go_round
            case rel => exact ⟨k + 1, hl, by go_num, by rw [HQ2.out]; go_num⟩
            case measure => simp only [intOf]; omega
          · obtain rfl : k = r := by omega
            rw [HP.out]
            clear hkb
            gi_upto_region 14 with fail
            refine own_setcN (k := 0) rfl OW OZ ?_
            clear OW OZ e1 f1
            intro W OW OZ
            rw [show ((n : Int) - (P : Int) : Int) = ((m : Int) : Int) by have := HFN.out; omega, HSM.out] at OW
            gi_wp2_with (first
              | (refine own_loadRow 0 40 (.tmp 3) rfl rfl rfl rfl _ Try.underlying40 rfl HSN2.out OW ?_)
              | (refine own_storeRow 1 40 (.tmp 6) (.tmp 49) rfl rfl rfl rfl nv rfl HNS.out HN1.out HSN2.out _ rfl OW OZ ?_; clear OW OZ; intro W OW OZ))
            refine leaves_own [] _ (Nat.le_of_eq HB0.out) (by simpa using OW.out) ?_
            intro W' hO
            exact ⟨_, results_ownRow hO 1 rfl rfl rfl Try.underlying40 rfl HSN2.out, rfl, hO.done HB0⟩
      · rw [if_pos rfl, HNM.out.1] at hSM
        have HSM := Lib.hid hSM
        have HFN := Lib.hid hfn'
        clear hSM hfn hfo hfn' hbit hLl hMl
        refine (callsIn_wide (n := 6)).1 ?_
        refine callsIn_of_wp_marks Try.func37 rfl trivial ?_ rfl
        simp only [Try.ntmps37, List.size_toArray, List.length_cons, List.length_nil, Nat.reduceAdd, Nat.reduceSub, Array.replicate_succ, Array.replicate_zero, List.push_toArray, List.append_toArray, List.nil_append, List.cons_append]
        gi_upto_region 1 with (first
          | (refine own_box 40 (.tmp 0) rfl rfl (.agg cv) rfl cv rfl OW OZ ?_; clear OW OZ; intro W OW OZ)
          | (refine own_alloc 40 rfl rfl _ alRaw2 OW OZ ?_; clear OW OZ; intro W OW OZ))
        have e1 := ((OW.out.blk (k := 0) rfl).cell (p / 8)).trans e0
        have f1 := (OW.out.blk (k := 0) rfl).frozen (p / 8)
        clear e0
        gi_wp2
        gi_loop [7, 8] (fun q i => ∃ k : Nat, k ≤ r ∧ i = .int .i64 k ∧ q = .int .i64 ((2 ^ k : Nat) : Int)) (fun _ i => r - (intOf i).toNat)
        case atStart => exact ⟨0, by omega, rfl, rfl⟩
        case round =>
          obtain ⟨k, hk, rfl, rfl⟩ := hrel
          have hkb := HK.out k hk
          by_cases hl : k < r
          · have hk2 := HLR.out k
            obtain ⟨q, hq⟩ : ∃ q, 2 ^ k = q := ⟨_, rfl⟩
            rw [hq] at hk2 hkb ⊢
            have HQ2 := Lib.hid hk2
            clear hk2 hq
            gi_wp2
            go_round
            case rel => exact ⟨k + 1, hl, by go_num, by rw [HQ2.out]; go_num⟩
            case measure => simp only [intOf]; omega
          · obtain rfl : k = r := by omega
            rw [HP.out]
            clear hkb
            gi_upto_region 14 with fail
            refine own_setcN (k := 0) rfl OW OZ ?_
            clear OW OZ e1 f1
            intro W OW OZ
            rw [show ((n : Int) : Int) = ((n : Int) : Int) by have := HFN.out; omega, HSM.out] at OW
            gi_wp2_with (first
              | (refine own_loadRow 0 40 (.tmp 3) rfl rfl rfl rfl _ Try.underlying40 rfl HSN2.out OW ?_)
              | (refine own_storeRow 1 40 (.tmp 6) (.tmp 49) rfl rfl rfl rfl nv rfl HNS.out HN1.out HSN2.out _ rfl OW OZ ?_; clear OW OZ; intro W OW OZ))
            refine leaves_own [] _ (Nat.le_of_eq HB0.out) (by simpa using OW.out) ?_
            intro W' hO
            exact ⟨_, results_ownRow hO 1 rfl rfl rfl Try.underlying40 rfl HSN2.out, rfl, hO.done HB0⟩
  · have HE := Lib.hid (force_out lx hin v)
    rw [HE.out] at HSN2 HNS HN1 ⊢
    obtain ⟨cv, hcv⟩ : ∃ cv, rawV xs = cv := ⟨_, rfl⟩
    rw [hcv] at HSN2 HNS HN1 HC HSX2 ⊢
    clear hcv lx hb0 lf
    by_cases h0 : 0 ≤ b
    · have h1 : 575 < b := by omega
      clear hin
      refine (callsIn_wide (n := 6)).1 ?_
      refine callsIn_of_wp_marks Try.func37 rfl trivial ?_ rfl
      simp only [Try.ntmps37, List.size_toArray, List.length_cons, List.length_nil, Nat.reduceAdd, Nat.reduceSub, Array.replicate_succ, Array.replicate_zero, List.push_toArray, List.append_toArray, List.nil_append, List.cons_append]
      gi_upto_region 1 with (first
        | (refine own_box 40 (.tmp 0) rfl rfl (.agg cv) rfl cv rfl OW OZ ?_; clear OW OZ; intro W OW OZ)
        | (refine own_alloc 40 rfl rfl _ alRaw2 OW OZ ?_; clear OW OZ; intro W OW OZ))
      gi_wp2_with (first
        | (refine own_loadRow 0 40 (.tmp 3) rfl rfl rfl rfl _ Try.underlying40 rfl HSN2.out OW ?_)
        | (refine own_storeRow 1 40 (.tmp 6) (.tmp 16) rfl rfl rfl rfl cv rfl HNS.out HN1.out HSN2.out _ rfl OW OZ ?_; clear OW OZ; intro W OW OZ))
      refine leaves_own [] _ (Nat.le_of_eq HB0.out) (by simpa using OW.out) ?_
      intro W' hO
      exact ⟨_, results_ownRow hO 1 rfl rfl rfl Try.underlying40 rfl HSN2.out, rfl, hO.done HB0⟩
    · clear hin
      refine (callsIn_wide (n := 6)).1 ?_
      refine callsIn_of_wp_marks Try.func37 rfl trivial ?_ rfl
      simp only [Try.ntmps37, List.size_toArray, List.length_cons, List.length_nil, Nat.reduceAdd, Nat.reduceSub, Array.replicate_succ, Array.replicate_zero, List.push_toArray, List.append_toArray, List.nil_append, List.cons_append]
      gi_upto_region 1 with (first
        | (refine own_box 40 (.tmp 0) rfl rfl (.agg cv) rfl cv rfl OW OZ ?_; clear OW OZ; intro W OW OZ)
        | (refine own_alloc 40 rfl rfl _ alRaw2 OW OZ ?_; clear OW OZ; intro W OW OZ))
      gi_wp2_with (first
        | (refine own_loadRow 0 40 (.tmp 3) rfl rfl rfl rfl _ Try.underlying40 rfl HSN2.out OW ?_)
        | (refine own_storeRow 1 40 (.tmp 6) (.tmp 16) rfl rfl rfl rfl cv rfl HNS.out HN1.out HSN2.out _ rfl OW OZ ?_; clear OW OZ; intro W OW OZ))
      refine leaves_own [] _ (Nat.le_of_eq HB0.out) (by simpa using OW.out) ?_
      intro W' hO
      exact ⟨_, results_ownRow hO 1 rfl rfl rfl Try.underlying40 rfl HSN2.out, rfl, hO.done HB0⟩
end Go.Proofs.Ytckhkagkpldoiaa
