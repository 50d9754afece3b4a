/- RawChips, walked: for every raw bytes, mode, chip and value the law returns true. -/
import Derived.Test.YthfncfcajjecbaaRawA
import Derived.Test.YthfncfcajjecbaaRawQ
import Derived.Test.YthfncfcajjecbaaRawM
import Derived.Test.YthfncfcajjecbaaRawV
import Derived.Test.YthfncfcajjecbaaOwnP
import Derived.Deep.QuietTactic
import Derived.BigQuiet
import Derived.Deep.WholeRow
namespace Go.Proofs.Ythfncfcajjecbaa
open Go.RowKit Go.Shelf
attribute [local go_sem] Oper.semAt_some

set_option maxRecDepth 100000 in
set_option maxHeartbeats 1000000 in
theorem RawChips_walk (xs : List UInt8) (a1 a2 a3 : Int) (w : World) (lx : xs.length = 72) (_w1 : (Lit.int .i64 a1).wf = true) (w2 : (Lit.int .i64 a2).wf = true) (w3 : (Lit.int .u8 a3).wf = true) :
    Calls Try.prog 6 #[.agg (rawV xs), .int .i64 a1, .int .i64 a2, .int .u8 a3] w fun e w' => e = .returned (.bool true) ∧ Below w.heap.size w w' := by
  obtain ⟨v, rfl⟩ : ∃ v : UInt8, a3 = (v.toNat : Int) := by
    have hb := bounds_u8 w3
    exact ⟨UInt8.ofNat a3.toNat, by rw [UInt8.toNat_ofNat']; omega⟩
  have lp := chipB_len (mode := a1) (chip := a2) (v := v) lx
  have HCI := Lib.hid (fun W => chip_any xs lx a1 a2 v W)
  have HEX := Lib.hid (fun W => exposure_any a1 xs (chipB a1 xs a2 v) lx lp W)
  have EQ := fun W => eq_raw (chipB a1 xs a2 v) xs lp lx W
  have HPS := Lib.hid (show (rawV (chipB a1 xs a2 v)).size = (rawV zero72).size by rw [rawV_size, rawV_size, lp]; rfl)
  have HP1 := Lib.hid (rawV_one (chipB a1 xs a2 v))
  have HSX := Lib.hid (show (Try.prog.info? 23).map (·.size) = some (rawV xs).size by rw [rawV_size, lx]; exact infoRaw)
  have HSP := Lib.hid (show (Try.prog.info? 23).map (·.size) = some (rawV (chipB a1 xs a2 v)).size by rw [rawV_size, lp]; exact infoRaw)
  have HRC := Lib.hid (fun W => refChips_any a1 W)
  obtain ⟨y2, y3⟩ := bounds_i64 w2
  obtain ⟨cv, hcv⟩ : ∃ cv, rawV xs = cv := ⟨_, rfl⟩
  obtain ⟨pv, hpv⟩ : ∃ cv, rawV (chipB a1 xs a2 v) = cv := ⟨_, rfl⟩
  have HCV := Lib.hid hcv
  have HPV := Lib.hid hpv
  rw [hcv] at HCI HEX EQ HSX ⊢
  rw [hpv] at HCI HEX EQ HPS HP1 HSP
  have HLX := Lib.hid (And.intro lx lp)
  obtain ⟨b0, hb0⟩ : ∃ b0, w.heap.size = b0 := ⟨_, rfl⟩
  have HB0 := Lib.hid hb0
  have OW := Lib.hid (Own.start b0 w)
  have OZ := Lib.hid (And.intro hb0 (Nat.le_refl b0))
  have hvl := v.toNat_lt
  obtain ⟨vn, hvn⟩ : ∃ vn, v.toNat = vn := ⟨_, rfl⟩
  rw [hvn] at HCI hvl ⊢
  clear hcv hpv lx lp hb0 hvn w2 w3
  by_cases hm : a1 = 1 ∨ a1 = 2
  · by_cases hc : 0 ≤ a2 ∧ a2 < chN a1
    · obtain ⟨c, rfl⟩ := Int.eq_ofNat_of_zero_le hc.1
      have hcn : c < chN a1 := by omega
      have HGET := Lib.hid (fun i (hi : i < 72) => chipB_get hm HLX.out.1 hcn v hi)
      have hN := chip_expo hm HLX.out.1 hcn v
      have HUZ := Lib.hid (show expo a1 xs (chipB a1 xs (c : Int) v) = 0 ↔ unl xs (chipB a1 xs (c : Int) v) 72 = 0 from (expo_zero hm HLX.out.1 HLX.out.2).trans (unl_zero HLX.out.1 HLX.out.2).symm)
      have HCG := Lib.hid (And.intro (fun j (hj : j < 72) => (show cv[j]? = some (.int .u8 ((xs.getD j 0).toNat : Int)) by rw [← HCV.out]; exact rawV_get xs (by rw [HLX.out.1]; exact hj)))
        (fun j (hj : j < 72) => (show pv[j]? = some (.int .u8 (((chipB a1 xs (c : Int) v).getD j 0).toNat : Int)) by rw [← HPV.out]; exact rawV_get _ (by rw [HLX.out.2]; exact hj))))
      obtain ⟨N, hNN⟩ : ∃ N, expo a1 xs (chipB a1 xs (c : Int) v) = N := ⟨_, rfl⟩
      rw [hNN] at HEX HUZ hN
      clear hNN hc HPV HCV EQ
      rcases hm with rfl | rfl
      · rw [if_pos rfl] at hN
        rw [show chN 1 = 9 from rfl] at hcn HGET HRC
        rw [show ((9 : Nat) : Int) = 9 from rfl] at HRC
        refine (callsIn_wide (n := 6)).1 ?_
        refine callsIn_of_wp_marks Try.func6 rfl trivial ?_ rfl
        simp only [Try.ntmps6, List.size_toArray, List.length_cons, List.length_nil, Nat.reduceAdd, Nat.reduceSub, Array.replicate_succ, Array.replicate_zero, List.push_toArray, List.append_toArray, List.nil_append, List.cons_append]
        gi_wp2_with (first | (refine own_box 23 (.tmp 0) rfl rfl (.agg cv) rfl cv rfl OW OZ ?_; clear OW OZ; intro W OW OZ))
        refine ⟨trivial, ?_⟩
        refine (callsIn_wide.2 (anchor9_any _)).mono ?_
        rintro e W1 ⟨rfl, hbw⟩
        obtain ⟨g1, OW2, OZ2⟩ := own_call OW OZ hbw
        clear hbw OW OZ
        have OW := OW2
        have OZ := OZ2
        clear OW2 OZ2
        gi_wp2_with (first | (refine own_loadRow 0 23 (.tmp 4) rfl rfl rfl rfl _ Try.underlying23 rfl HSX.out OW ?_))
        refine ⟨trivial, ?_⟩
        refine (callsIn_wide.2 (HCI.out _)).mono ?_
        rintro e W2 ⟨rfl, hbw⟩
        obtain ⟨g2, OW2, OZ2⟩ := own_call OW OZ hbw
        clear hbw OW OZ
        have OW := OW2
        have OZ := OZ2
        clear OW2 OZ2
        gi_wp2_with (first
          | (refine own_alloc 23 rfl rfl _ alRaw OW OZ ?_; clear OW OZ; intro W OW OZ)
          | (refine own_storeRow 1 23 (.tmp 9) (.tmp 19) rfl rfl rfl rfl pv rfl HPS.out HP1.out HSP.out _ rfl OW OZ ?_; clear OW OZ; intro W OW OZ)
          | (refine own_loadRow 0 23 (.tmp 4) rfl rfl rfl rfl _ Try.underlying23 rfl HSX.out OW ?_)
          | (refine own_loadRow 1 23 (.tmp 9) rfl rfl rfl rfl _ Try.underlying23 rfl HSP.out OW ?_))
        refine ⟨trivial, ?_⟩
        refine (callsIn_wide.2 (HEX.out _)).mono ?_
        rintro e W3 ⟨rfl, hbw⟩
        obtain ⟨g3, OW2, OZ2⟩ := own_call OW OZ hbw
        clear hbw OW OZ
        have OW := OW2
        have OZ := OZ2
        clear OW2 OZ2
        gi_wp2_with fail
        refine ⟨trivial, ?_⟩
        refine (callsIn_wide.2 (HRC.out _)).mono ?_
        rintro e W4 ⟨rfl, rfl⟩
        gi_wp2
        gi_loopw [11, 47] (fun u i wr => ∃ j : Nat, j ≤ 72 ∧ i = .int .i64 j ∧ u = .int .i64 ((unl xs (chipB 1 xs (c : Int) v) j : Nat) : Int) ∧ Own b0 w [cellsO b0 23 cv, cellsO g2 23 pv] wr) (fun _ i _ => 72 - (intOf i).toNat)
        case atStart => exact ⟨0, by omega, rfl, rfl, OW.out⟩
        case round =>
          obtain ⟨j, hj, rfl, rfl, hO⟩ := hrel
          clear OW OZ
          have OW := Lib.hid hO
          have ul := unl_le xs (chipB 1 xs (c : Int) v) j
          by_cases hl : j < 72
          · have e1 := (hO.blk (k := 0) rfl).cell j
            have e2 := (hO.blk (k := 1) rfl).cell j
            rw [HCG.out.1 j hl] at e1
            rw [HCG.out.2 j hl] at e2
            have HUS := Lib.hid (show unl xs (chipB 1 xs (c : Int) v) (j + 1) = unl xs (chipB 1 xs (c : Int) v) j + if xs.getD j 0 = (chipB 1 xs (c : Int) v).getD j 0 then 0 else 1 from rfl)
            have hg := HGET.out j hl
            obtain ⟨U, hU⟩ : ∃ U, unl xs (chipB 1 xs (c : Int) v) j = U := ⟨_, rfl⟩
            obtain ⟨X, hX⟩ : ∃ X, xs.getD j 0 = X := ⟨_, rfl⟩
            obtain ⟨Y, hY⟩ : ∃ Y, (chipB 1 xs (c : Int) v).getD j 0 = Y := ⟨_, rfl⟩
            rw [hU, hX, hY] at HUS
            rw [hU] at ul ⊢
            rw [hX] at e1 hg
            rw [hY] at e2 hg
            by_cases hxy : X = Y
            · subst hxy
              have q1 : ((X.toNat : Int) != (X.toNat : Int)) = false := by simp
              have HU2 := Lib.hid (show unl xs (chipB 1 xs (c : Int) v) (j + 1) = U by rw [HUS.out, if_pos rfl]; rfl)
              obtain ⟨n, hn⟩ : ∃ n, X.toNat = n := ⟨_, rfl⟩
              rw [hn] at e1 e2 q1
              clear hU hX hY hg HUS hO hn
              gi_upto_region 11 with fail
              refine wpIn_wide.2 ?_
              go_quiet (fail)
              gi_wp2
              go_roundw
              case rel => exact ⟨j + 1, hl, by go_num, by rw [HU2.out], OW.out.drewN nq⟩
              case measure => simp [intOf]; omega
            · have hm : j % 9 = c := by
                apply Classical.byContradiction
                intro h
                rw [if_neg h] at hg
                exact hxy hg.symm
              have q1 : ((Y.toNat : Int) != (X.toNat : Int)) = true := by rw [bne_iff_ne]; intro h; exact hxy (UInt8.toNat_inj.1 (by omega))
              have HU2 := Lib.hid (show unl xs (chipB 1 xs (c : Int) v) (j + 1) = U + 1 by rw [HUS.out, if_neg hxy])
              have t1 : Int.tmod (j : Int) 9 = (c : Int) := by rw [← hm]; rfl
              obtain ⟨n, hn⟩ : ∃ n, X.toNat = n := ⟨_, rfl⟩
              obtain ⟨m, hm'⟩ : ∃ n, Y.toNat = n := ⟨_, rfl⟩
              rw [hn] at e1 q1
              rw [hm'] at e2 q1
              clear hU hX hY hg HUS hO hn hm' hxy hm
              gi_upto_region 11 with fail
              refine wpIn_wide.2 ?_
              go_quiet (fail)
              gi_wp2_with fail
              refine ⟨trivial, ?_⟩
              refine (callsIn_wide.2 (HRC.out _)).mono ?_
              rintro e W4 ⟨rfl, rfl⟩
              gi_wp2
              go_roundw
              case rel => exact ⟨j + 1, hl, by go_num, by rw [HU2.out]; go_num, OW.out.drewN nq⟩
              case measure => simp [intOf]; omega
          · obtain rfl : j = 72 := by omega
            have hu0 := HUZ.out
            obtain ⟨U, hU⟩ : ∃ U, unl xs (chipB 1 xs (c : Int) v) 72 = U := ⟨_, rfl⟩
            rw [hU] at ul hu0 ⊢
            clear hU hO
            by_cases h0 : N = 0
            · have hU0 := hu0.1 h0
              subst h0
              subst hU0
              clear hu0
              gi_wp2
              refine leaves_own [] _ (Nat.le_of_eq HB0.out) (by simpa using OW.out) ?_
              intro W' hO
              exact ⟨_, by simp [results, Try.results6, go_sem], rfl, hO.done HB0⟩
            · have i1 : ((N : Int) == 0) = false := by rw [beq_eq_false_iff_ne]; omega
              have i2 : ((U : Int) == 0) = false := by rw [beq_eq_false_iff_ne]; intro h; exact h0 (hu0.2 (by omega))
              clear hu0 h0
              gi_wp2
              refine leaves_own [] _ (Nat.le_of_eq HB0.out) (by simpa using OW.out) ?_
              intro W' hO
              exact ⟨_, by simp [results, Try.results6, go_sem], rfl, hO.done HB0⟩
      · rw [if_neg (by omega)] at hN
        rw [show chN 2 = 36 from rfl] at hcn HGET HRC
        rw [show ((36 : Nat) : Int) = 36 from rfl] at HRC
        refine (callsIn_wide (n := 6)).1 ?_
        refine callsIn_of_wp_marks Try.func6 rfl trivial ?_ rfl
        simp only [Try.ntmps6, List.size_toArray, List.length_cons, List.length_nil, Nat.reduceAdd, Nat.reduceSub, Array.replicate_succ, Array.replicate_zero, List.push_toArray, List.append_toArray, List.nil_append, List.cons_append]
        gi_wp2_with (first | (refine own_box 23 (.tmp 0) rfl rfl (.agg cv) rfl cv rfl OW OZ ?_; clear OW OZ; intro W OW OZ))
        refine ⟨trivial, ?_⟩
        refine (callsIn_wide.2 (anchor9_any _)).mono ?_
        rintro e W1 ⟨rfl, hbw⟩
        obtain ⟨g1, OW2, OZ2⟩ := own_call OW OZ hbw
        clear hbw OW OZ
        have OW := OW2
        have OZ := OZ2
        clear OW2 OZ2
        gi_wp2_with (first | (refine own_loadRow 0 23 (.tmp 4) rfl rfl rfl rfl _ Try.underlying23 rfl HSX.out OW ?_))
        refine ⟨trivial, ?_⟩
        refine (callsIn_wide.2 (HCI.out _)).mono ?_
        rintro e W2 ⟨rfl, hbw⟩
        obtain ⟨g2, OW2, OZ2⟩ := own_call OW OZ hbw
        clear hbw OW OZ
        have OW := OW2
        have OZ := OZ2
        clear OW2 OZ2
        gi_wp2_with (first
          | (refine own_alloc 23 rfl rfl _ alRaw OW OZ ?_; clear OW OZ; intro W OW OZ)
          | (refine own_storeRow 1 23 (.tmp 9) (.tmp 19) rfl rfl rfl rfl pv rfl HPS.out HP1.out HSP.out _ rfl OW OZ ?_; clear OW OZ; intro W OW OZ)
          | (refine own_loadRow 0 23 (.tmp 4) rfl rfl rfl rfl _ Try.underlying23 rfl HSX.out OW ?_)
          | (refine own_loadRow 1 23 (.tmp 9) rfl rfl rfl rfl _ Try.underlying23 rfl HSP.out OW ?_))
        refine ⟨trivial, ?_⟩
        refine (callsIn_wide.2 (HEX.out _)).mono ?_
        rintro e W3 ⟨rfl, hbw⟩
        obtain ⟨g3, OW2, OZ2⟩ := own_call OW OZ hbw
        clear hbw OW OZ
        have OW := OW2
        have OZ := OZ2
        clear OW2 OZ2
        gi_wp2_with fail
        refine ⟨trivial, ?_⟩
        refine (callsIn_wide.2 (HRC.out _)).mono ?_
        rintro e W4 ⟨rfl, rfl⟩
        gi_wp2
        gi_loopw [11, 47] (fun u i wr => ∃ j : Nat, j ≤ 72 ∧ i = .int .i64 j ∧ u = .int .i64 ((unl xs (chipB 2 xs (c : Int) v) j : Nat) : Int) ∧ Own b0 w [cellsO b0 23 cv, cellsO g2 23 pv] wr) (fun _ i _ => 72 - (intOf i).toNat)
        case atStart => exact ⟨0, by omega, rfl, rfl, OW.out⟩
        case round =>
          obtain ⟨j, hj, rfl, rfl, hO⟩ := hrel
          clear OW OZ
          have OW := Lib.hid hO
          have ul := unl_le xs (chipB 2 xs (c : Int) v) j
          by_cases hl : j < 72
          · have e1 := (hO.blk (k := 0) rfl).cell j
            have e2 := (hO.blk (k := 1) rfl).cell j
            rw [HCG.out.1 j hl] at e1
            rw [HCG.out.2 j hl] at e2
            have HUS := Lib.hid (show unl xs (chipB 2 xs (c : Int) v) (j + 1) = unl xs (chipB 2 xs (c : Int) v) j + if xs.getD j 0 = (chipB 2 xs (c : Int) v).getD j 0 then 0 else 1 from rfl)
            have hg := HGET.out j hl
            obtain ⟨U, hU⟩ : ∃ U, unl xs (chipB 2 xs (c : Int) v) j = U := ⟨_, rfl⟩
            obtain ⟨X, hX⟩ : ∃ X, xs.getD j 0 = X := ⟨_, rfl⟩
            obtain ⟨Y, hY⟩ : ∃ Y, (chipB 2 xs (c : Int) v).getD j 0 = Y := ⟨_, rfl⟩
            rw [hU, hX, hY] at HUS
            rw [hU] at ul ⊢
            rw [hX] at e1 hg
            rw [hY] at e2 hg
            by_cases hxy : X = Y
            · subst hxy
              have q1 : ((X.toNat : Int) != (X.toNat : Int)) = false := by simp
              have HU2 := Lib.hid (show unl xs (chipB 2 xs (c : Int) v) (j + 1) = U by rw [HUS.out, if_pos rfl]; rfl)
              obtain ⟨n, hn⟩ : ∃ n, X.toNat = n := ⟨_, rfl⟩
              rw [hn] at e1 e2 q1
              clear hU hX hY hg HUS hO hn
              gi_upto_region 11 with fail
              refine wpIn_wide.2 ?_
              go_quiet (fail)
              gi_wp2
              go_roundw
              case rel => exact ⟨j + 1, hl, by go_num, by rw [HU2.out], OW.out.drewN nq⟩
              case measure => simp [intOf]; omega
            · have hm : j % 36 = c := by
                apply Classical.byContradiction
                intro h
                rw [if_neg h] at hg
                exact hxy hg.symm
              have q1 : ((Y.toNat : Int) != (X.toNat : Int)) = true := by rw [bne_iff_ne]; intro h; exact hxy (UInt8.toNat_inj.1 (by omega))
              have HU2 := Lib.hid (show unl xs (chipB 2 xs (c : Int) v) (j + 1) = U + 1 by rw [HUS.out, if_neg hxy])
              have t1 : Int.tmod (j : Int) 36 = (c : Int) := by rw [← hm]; rfl
              obtain ⟨n, hn⟩ : ∃ n, X.toNat = n := ⟨_, rfl⟩
              obtain ⟨m, hm'⟩ : ∃ n, Y.toNat = n := ⟨_, rfl⟩
              rw [hn] at e1 q1
              rw [hm'] at e2 q1
              clear hU hX hY hg HUS hO hn hm' hxy hm
              gi_upto_region 11 with fail
              refine wpIn_wide.2 ?_
              go_quiet (fail)
              gi_wp2_with fail
              refine ⟨trivial, ?_⟩
              refine (callsIn_wide.2 (HRC.out _)).mono ?_
              rintro e W4 ⟨rfl, rfl⟩
              gi_wp2
              go_roundw
              case rel => exact ⟨j + 1, hl, by go_num, by rw [HU2.out]; go_num, OW.out.drewN nq⟩
              case measure => simp [intOf]; omega
          · obtain rfl : j = 72 := by omega
            have hu0 := HUZ.out
            obtain ⟨U, hU⟩ : ∃ U, unl xs (chipB 2 xs (c : Int) v) 72 = U := ⟨_, rfl⟩
            rw [hU] at ul hu0 ⊢
            clear hU hO
            by_cases h0 : N = 0
            · have hU0 := hu0.1 h0
              subst h0
              subst hU0
              clear hu0
              gi_wp2
              refine leaves_own [] _ (Nat.le_of_eq HB0.out) (by simpa using OW.out) ?_
              intro W' hO
              exact ⟨_, by simp [results, Try.results6, go_sem], rfl, hO.done HB0⟩
            · have i1 : ((N : Int) == 0) = false := by rw [beq_eq_false_iff_ne]; omega
              have i2 : ((U : Int) == 0) = false := by rw [beq_eq_false_iff_ne]; intro h; exact h0 (hu0.2 (by omega))
              clear hu0 h0
              gi_wp2
              refine leaves_own [] _ (Nat.le_of_eq HB0.out) (by simpa using OW.out) ?_
              intro W' hO
              exact ⟨_, by simp [results, Try.results6, go_sem], rfl, hO.done HB0⟩
    · have HEP := Lib.hid (show chipB a1 xs a2 v = xs from chipB_out hc xs v)
      have HEN := Lib.hid (show expo a1 xs xs = 0 from (expo_zero hm HLX.out.1 HLX.out.1).2 rfl)
      have m1 : (a1 != 1 && a1 != 2) = false := by rcases hm with rfl | rfl <;> rfl
      have HM := Lib.hid hm
      by_cases h0 : 0 ≤ a2
      · have h1 : (chN a1 : Int) ≤ a2 := by omega
        rcases hm with rfl | rfl
        · rw [show chN 1 = 9 from rfl] at h1 HRC
          rw [show ((9 : Nat) : Int) = 9 from rfl] at HRC h1
          clear hc m1
          have guard := guard_raw
          rw [HEP.out] at HEX EQ
          rw [HEN.out] at HEX
          rw [show ((0 : Nat) : Int) = 0 from rfl] at HEX
          refine (callsIn_wide (n := 6)).1 ?_
          refine callsIn_of_wp_marks Try.func6 rfl trivial ?_ rfl
          simp only [Try.ntmps6, List.size_toArray, List.length_cons, List.length_nil, Nat.reduceAdd, Nat.reduceSub, Array.replicate_succ, Array.replicate_zero, List.push_toArray, List.append_toArray, List.nil_append, List.cons_append]
          gi_wp2_with (first | (refine own_box 23 (.tmp 0) rfl rfl (.agg cv) rfl cv rfl OW OZ ?_; clear OW OZ; intro W OW OZ))
          refine ⟨trivial, ?_⟩
          refine (callsIn_wide.2 (anchor9_any _)).mono ?_
          rintro e W1 ⟨rfl, hbw⟩
          obtain ⟨g1, OW2, OZ2⟩ := own_call OW OZ hbw
          clear hbw OW OZ
          have OW := OW2
          have OZ := OZ2
          clear OW2 OZ2
          gi_wp2_with (first | (refine own_loadRow 0 23 (.tmp 4) rfl rfl rfl rfl _ Try.underlying23 rfl HSX.out OW ?_))
          refine ⟨trivial, ?_⟩
          refine (callsIn_wide.2 (HCI.out _)).mono ?_
          rintro e W2 ⟨rfl, hbw⟩
          obtain ⟨g2, OW2, OZ2⟩ := own_call OW OZ hbw
          clear hbw OW OZ
          have OW := OW2
          have OZ := OZ2
          clear OW2 OZ2
          gi_wp2_with (first
            | (refine own_alloc 23 rfl rfl _ alRaw OW OZ ?_; clear OW OZ; intro W OW OZ)
            | (refine own_storeRow 1 23 (.tmp 9) (.tmp 19) rfl rfl rfl rfl pv rfl HPS.out HP1.out HSP.out _ rfl OW OZ ?_; clear OW OZ; intro W OW OZ)
            | (refine own_loadRow 0 23 (.tmp 4) rfl rfl rfl rfl _ Try.underlying23 rfl HSX.out OW ?_)
            | (refine own_loadRow 1 23 (.tmp 9) rfl rfl rfl rfl _ Try.underlying23 rfl HSP.out OW ?_))
          refine ⟨trivial, ?_⟩
          refine (callsIn_wide.2 (HEX.out _)).mono ?_
          rintro e W3 ⟨rfl, hbw⟩
          obtain ⟨g3, OW2, OZ2⟩ := own_call OW OZ hbw
          clear hbw OW OZ
          have OW := OW2
          have OZ := OZ2
          clear OW2 OZ2
          gi_wp2_with fail
          refine ⟨trivial, ?_⟩
          refine (callsIn_wide.2 (HRC.out _)).mono ?_
          rintro e W4 ⟨rfl, rfl⟩
          gi_wp2_with (first
            | (refine own_loadRow 0 23 (.tmp 4) rfl rfl rfl rfl _ Try.underlying23 rfl HSX.out OW ?_)
            | (refine own_loadRow 1 23 (.tmp 9) rfl rfl rfl rfl _ Try.underlying23 rfl HSP.out OW ?_))
          refine leaves_own [] _ (Nat.le_of_eq HB0.out) (by simpa using OW.out) ?_
          intro W' hO
          exact ⟨_, by simp [results, Try.results6, go_sem], rfl, hO.done HB0⟩
        · rw [show chN 2 = 36 from rfl] at h1 HRC
          rw [show ((36 : Nat) : Int) = 36 from rfl] at HRC h1
          clear hc m1
          have guard := guard_raw
          rw [HEP.out] at HEX EQ
          rw [HEN.out] at HEX
          rw [show ((0 : Nat) : Int) = 0 from rfl] at HEX
          refine (callsIn_wide (n := 6)).1 ?_
          refine callsIn_of_wp_marks Try.func6 rfl trivial ?_ rfl
          simp only [Try.ntmps6, List.size_toArray, List.length_cons, List.length_nil, Nat.reduceAdd, Nat.reduceSub, Array.replicate_succ, Array.replicate_zero, List.push_toArray, List.append_toArray, List.nil_append, List.cons_append]
          gi_wp2_with (first | (refine own_box 23 (.tmp 0) rfl rfl (.agg cv) rfl cv rfl OW OZ ?_; clear OW OZ; intro W OW OZ))
          refine ⟨trivial, ?_⟩
          refine (callsIn_wide.2 (anchor9_any _)).mono ?_
          rintro e W1 ⟨rfl, hbw⟩
          obtain ⟨g1, OW2, OZ2⟩ := own_call OW OZ hbw
          clear hbw OW OZ
          have OW := OW2
          have OZ := OZ2
          clear OW2 OZ2
          gi_wp2_with (first | (refine own_loadRow 0 23 (.tmp 4) rfl rfl rfl rfl _ Try.underlying23 rfl HSX.out OW ?_))
          refine ⟨trivial, ?_⟩
          refine (callsIn_wide.2 (HCI.out _)).mono ?_
          rintro e W2 ⟨rfl, hbw⟩
          obtain ⟨g2, OW2, OZ2⟩ := own_call OW OZ hbw
          clear hbw OW OZ
          have OW := OW2
          have OZ := OZ2
          clear OW2 OZ2
          gi_wp2_with (first
            | (refine own_alloc 23 rfl rfl _ alRaw OW OZ ?_; clear OW OZ; intro W OW OZ)
            | (refine own_storeRow 1 23 (.tmp 9) (.tmp 19) rfl rfl rfl rfl pv rfl HPS.out HP1.out HSP.out _ rfl OW OZ ?_; clear OW OZ; intro W OW OZ)
            | (refine own_loadRow 0 23 (.tmp 4) rfl rfl rfl rfl _ Try.underlying23 rfl HSX.out OW ?_)
            | (refine own_loadRow 1 23 (.tmp 9) rfl rfl rfl rfl _ Try.underlying23 rfl HSP.out OW ?_))
          refine ⟨trivial, ?_⟩
          refine (callsIn_wide.2 (HEX.out _)).mono ?_
          rintro e W3 ⟨rfl, hbw⟩
          obtain ⟨g3, OW2, OZ2⟩ := own_call OW OZ hbw
          clear hbw OW OZ
          have OW := OW2
          have OZ := OZ2
          clear OW2 OZ2
          gi_wp2_with fail
          refine ⟨trivial, ?_⟩
          refine (callsIn_wide.2 (HRC.out _)).mono ?_
          rintro e W4 ⟨rfl, rfl⟩
          gi_wp2_with (first
            | (refine own_loadRow 0 23 (.tmp 4) rfl rfl rfl rfl _ Try.underlying23 rfl HSX.out OW ?_)
            | (refine own_loadRow 1 23 (.tmp 9) rfl rfl rfl rfl _ Try.underlying23 rfl HSP.out OW ?_))
          refine leaves_own [] _ (Nat.le_of_eq HB0.out) (by simpa using OW.out) ?_
          intro W' hO
          exact ⟨_, by simp [results, Try.results6, go_sem], rfl, hO.done HB0⟩
      · rcases hm with rfl | rfl
        · clear hc m1
          have guard := guard_raw
          rw [HEP.out] at HEX EQ
          rw [HEN.out] at HEX
          rw [show ((0 : Nat) : Int) = 0 from rfl] at HEX
          refine (callsIn_wide (n := 6)).1 ?_
          refine callsIn_of_wp_marks Try.func6 rfl trivial ?_ rfl
          simp only [Try.ntmps6, List.size_toArray, List.length_cons, List.length_nil, Nat.reduceAdd, Nat.reduceSub, Array.replicate_succ, Array.replicate_zero, List.push_toArray, List.append_toArray, List.nil_append, List.cons_append]
          gi_wp2_with (first | (refine own_box 23 (.tmp 0) rfl rfl (.agg cv) rfl cv rfl OW OZ ?_; clear OW OZ; intro W OW OZ))
          refine ⟨trivial, ?_⟩
          refine (callsIn_wide.2 (anchor9_any _)).mono ?_
          rintro e W1 ⟨rfl, hbw⟩
          obtain ⟨g1, OW2, OZ2⟩ := own_call OW OZ hbw
          clear hbw OW OZ
          have OW := OW2
          have OZ := OZ2
          clear OW2 OZ2
          gi_wp2_with (first | (refine own_loadRow 0 23 (.tmp 4) rfl rfl rfl rfl _ Try.underlying23 rfl HSX.out OW ?_))
          refine ⟨trivial, ?_⟩
          refine (callsIn_wide.2 (HCI.out _)).mono ?_
          rintro e W2 ⟨rfl, hbw⟩
          obtain ⟨g2, OW2, OZ2⟩ := own_call OW OZ hbw
          clear hbw OW OZ
          have OW := OW2
          have OZ := OZ2
          clear OW2 OZ2
          gi_wp2_with (first
            | (refine own_alloc 23 rfl rfl _ alRaw OW OZ ?_; clear OW OZ; intro W OW OZ)
            | (refine own_storeRow 1 23 (.tmp 9) (.tmp 19) rfl rfl rfl rfl pv rfl HPS.out HP1.out HSP.out _ rfl OW OZ ?_; clear OW OZ; intro W OW OZ)
            | (refine own_loadRow 0 23 (.tmp 4) rfl rfl rfl rfl _ Try.underlying23 rfl HSX.out OW ?_)
            | (refine own_loadRow 1 23 (.tmp 9) rfl rfl rfl rfl _ Try.underlying23 rfl HSP.out OW ?_))
          refine ⟨trivial, ?_⟩
          refine (callsIn_wide.2 (HEX.out _)).mono ?_
          rintro e W3 ⟨rfl, hbw⟩
          obtain ⟨g3, OW2, OZ2⟩ := own_call OW OZ hbw
          clear hbw OW OZ
          have OW := OW2
          have OZ := OZ2
          clear OW2 OZ2
          gi_wp2_with fail
          refine ⟨trivial, ?_⟩
          gi_wp2_with (first
            | (refine own_loadRow 0 23 (.tmp 4) rfl rfl rfl rfl _ Try.underlying23 rfl HSX.out OW ?_)
            | (refine own_loadRow 1 23 (.tmp 9) rfl rfl rfl rfl _ Try.underlying23 rfl HSP.out OW ?_))
          refine leaves_own [] _ (Nat.le_of_eq HB0.out) (by simpa using OW.out) ?_
          intro W' hO
          exact ⟨_, by simp [results, Try.results6, go_sem], rfl, hO.done HB0⟩
        · clear hc m1
          have guard := guard_raw
          rw [HEP.out] at HEX EQ
          rw [HEN.out] at HEX
          rw [show ((0 : Nat) : Int) = 0 from rfl] at HEX
          refine (callsIn_wide (n := 6)).1 ?_
          refine callsIn_of_wp_marks Try.func6 rfl trivial ?_ rfl
          simp only [Try.ntmps6, List.size_toArray, List.length_cons, List.length_nil, Nat.reduceAdd, Nat.reduceSub, Array.replicate_succ, Array.replicate_zero, List.push_toArray, List.append_toArray, List.nil_append, List.cons_append]
          gi_wp2_with (first | (refine own_box 23 (.tmp 0) rfl rfl (.agg cv) rfl cv rfl OW OZ ?_; clear OW OZ; intro W OW OZ))
          refine ⟨trivial, ?_⟩
          refine (callsIn_wide.2 (anchor9_any _)).mono ?_
          rintro e W1 ⟨rfl, hbw⟩
          obtain ⟨g1, OW2, OZ2⟩ := own_call OW OZ hbw
          clear hbw OW OZ
          have OW := OW2
          have OZ := OZ2
          clear OW2 OZ2
          gi_wp2_with (first | (refine own_loadRow 0 23 (.tmp 4) rfl rfl rfl rfl _ Try.underlying23 rfl HSX.out OW ?_))
          refine ⟨trivial, ?_⟩
          refine (callsIn_wide.2 (HCI.out _)).mono ?_
          rintro e W2 ⟨rfl, hbw⟩
          obtain ⟨g2, OW2, OZ2⟩ := own_call OW OZ hbw
          clear hbw OW OZ
          have OW := OW2
          have OZ := OZ2
          clear OW2 OZ2
          gi_wp2_with (first
            | (refine own_alloc 23 rfl rfl _ alRaw OW OZ ?_; clear OW OZ; intro W OW OZ)
            | (refine own_storeRow 1 23 (.tmp 9) (.tmp 19) rfl rfl rfl rfl pv rfl HPS.out HP1.out HSP.out _ rfl OW OZ ?_; clear OW OZ; intro W OW OZ)
            | (refine own_loadRow 0 23 (.tmp 4) rfl rfl rfl rfl _ Try.underlying23 rfl HSX.out OW ?_)
            | (refine own_loadRow 1 23 (.tmp 9) rfl rfl rfl rfl _ Try.underlying23 rfl HSP.out OW ?_))
          refine ⟨trivial, ?_⟩
          refine (callsIn_wide.2 (HEX.out _)).mono ?_
          rintro e W3 ⟨rfl, hbw⟩
          obtain ⟨g3, OW2, OZ2⟩ := own_call OW OZ hbw
          clear hbw OW OZ
          have OW := OW2
          have OZ := OZ2
          clear OW2 OZ2
          gi_wp2_with fail
          refine ⟨trivial, ?_⟩
          gi_wp2_with (first
            | (refine own_loadRow 0 23 (.tmp 4) rfl rfl rfl rfl _ Try.underlying23 rfl HSX.out OW ?_)
            | (refine own_loadRow 1 23 (.tmp 9) rfl rfl rfl rfl _ Try.underlying23 rfl HSP.out OW ?_))
          refine leaves_own [] _ (Nat.le_of_eq HB0.out) (by simpa using OW.out) ?_
          intro W' hO
          exact ⟨_, by simp [results, Try.results6, go_sem], rfl, hO.done HB0⟩
  · have HEP := Lib.hid (show chipB a1 xs a2 v = xs from chipB_out (by
      have : chN a1 = 0 := by unfold chN; rw [if_neg (by omega), if_neg (by omega)]
      omega) xs v)
    have HEN := Lib.hid (show expo a1 xs xs = 0 from expo_none (by omega) (by omega) xs xs)
    have m1 : (a1 != 1) = true := by rw [bne_iff_ne]; omega
    have m2 : (a1 != 2) = true := by rw [bne_iff_ne]; omega
    clear hm
    have guard := guard_raw
    rw [HEP.out] at HEX EQ
    rw [HEN.out] at HEX
    rw [show ((0 : Nat) : Int) = 0 from rfl] at HEX
    refine (callsIn_wide (n := 6)).1 ?_
    refine callsIn_of_wp_marks Try.func6 rfl trivial ?_ rfl
    simp only [Try.ntmps6, List.size_toArray, List.length_cons, List.length_nil, Nat.reduceAdd, Nat.reduceSub, Array.replicate_succ, Array.replicate_zero, List.push_toArray, List.append_toArray, List.nil_append, List.cons_append]
    gi_wp2_with (first | (refine own_box 23 (.tmp 0) rfl rfl (.agg cv) rfl cv rfl OW OZ ?_; clear OW OZ; intro W OW OZ))
    refine ⟨trivial, ?_⟩
    refine (callsIn_wide.2 (anchor9_any _)).mono ?_
    rintro e W1 ⟨rfl, hbw⟩
    obtain ⟨g1, OW2, OZ2⟩ := own_call OW OZ hbw
    clear hbw OW OZ
    have OW := OW2
    have OZ := OZ2
    clear OW2 OZ2
    gi_wp2_with (first | (refine own_loadRow 0 23 (.tmp 4) rfl rfl rfl rfl _ Try.underlying23 rfl HSX.out OW ?_))
    refine ⟨trivial, ?_⟩
    refine (callsIn_wide.2 (HCI.out _)).mono ?_
    rintro e W2 ⟨rfl, hbw⟩
    obtain ⟨g2, OW2, OZ2⟩ := own_call OW OZ hbw
    clear hbw OW OZ
    have OW := OW2
    have OZ := OZ2
    clear OW2 OZ2
    gi_wp2_with (first
      | (refine own_alloc 23 rfl rfl _ alRaw OW OZ ?_; clear OW OZ; intro W OW OZ)
      | (refine own_storeRow 1 23 (.tmp 9) (.tmp 19) rfl rfl rfl rfl pv rfl HPS.out HP1.out HSP.out _ rfl OW OZ ?_; clear OW OZ; intro W OW OZ)
      | (refine own_loadRow 0 23 (.tmp 4) rfl rfl rfl rfl _ Try.underlying23 rfl HSX.out OW ?_)
      | (refine own_loadRow 1 23 (.tmp 9) rfl rfl rfl rfl _ Try.underlying23 rfl HSP.out OW ?_))
    refine ⟨trivial, ?_⟩
    refine (callsIn_wide.2 (HEX.out _)).mono ?_
    rintro e W3 ⟨rfl, hbw⟩
    obtain ⟨g3, OW2, OZ2⟩ := own_call OW OZ hbw
    clear hbw OW OZ
    have OW := OW2
    have OZ := OZ2
    clear OW2 OZ2
    gi_wp2_with fail
    refine ⟨trivial, ?_⟩
    gi_wp2_with (first
      | (refine own_loadRow 0 23 (.tmp 4) rfl rfl rfl rfl _ Try.underlying23 rfl HSX.out OW ?_)
      | (refine own_loadRow 1 23 (.tmp 9) rfl rfl rfl rfl _ Try.underlying23 rfl HSP.out OW ?_))
    refine leaves_own [] _ (Nat.le_of_eq HB0.out) (by simpa using OW.out) ?_
    intro W' hO
    exact ⟨_, by simp [results, Try.results6, go_sem], rfl, hO.done HB0⟩
end Go.Proofs.Ythfncfcajjecbaa
