/- RawWhole, walked: for every raw bytes and mode the law returns true. -/
import Derived.Test.YthfncfcajjecbaaRawA
import Derived.Test.YthfncfcajjecbaaRawD
import Derived.Test.YthfncfcajjecbaaRawQ
import Derived.Test.YthfncfcajjecbaaRawV
import Derived.Test.YthfncfcajjecbaaOwnP
import Derived.Deep.QuietTactic
import Derived.BigQuiet
import Derived.Deep.WholeRow
import Derived.Outline
namespace Go.Proofs.Ythfncfcajjecbaa
open Go.RowKit Go.Shelf
attribute [local go_sem] Oper.semAt_some

theorem nd_of {a1 : Int} (h : a1 = 1 ∨ a1 = 2) : (chN a1 = 9 ∧ wdN a1 = 8) ∨ (chN a1 = 36 ∧ wdN a1 = 2) := by
  rcases h with rfl | rfl
  · exact .inl ⟨rfl, rfl⟩
  · exact .inr ⟨rfl, rfl⟩
set_option maxRecDepth 100000 in
set_option maxHeartbeats 1000000 in
theorem RawWhole_walk (xs : List UInt8) (a1 : Int) (w : World) (lx : xs.length = 72) (_w1 : (Lit.int .i64 a1).wf = true) :
    Calls Try.prog 4 #[.agg (rawV xs), .int .i64 a1] w fun e w' => e = .returned (.bool true) ∧ Below w.heap.size w w' := by
  have HIN := Lib.hid (fun zs : List UInt8 => fun hz : zs.length = 72 => (show (Try.prog.info? 23).map (·.size) = some (rawV zs).size by rw [rawV_size, hz]; exact infoRaw))
  obtain ⟨cv, hcv⟩ : ∃ cv, rawV xs = cv := ⟨_, rfl⟩
  have HCV := Lib.hid hcv
  have HLX := Lib.hid lx
  have HSX := Lib.hid (show (Try.prog.info? 23).map (·.size) = some cv.size by rw [← hcv]; exact HIN.out xs lx)
  rw [hcv]
  obtain ⟨b0, hb0⟩ : ∃ b0, w.heap.size = b0 := ⟨_, rfl⟩
  have HB0 := Lib.hid hb0
  have OW := Lib.hid (Own.start b0 w)
  have OZ := Lib.hid (And.intro hb0 (Nat.le_refl b0))
  obtain ⟨W, hW⟩ : ∃ W, w = W := ⟨_, rfl⟩
  clear hcv lx hb0
  by_cases hm : a1 = 1 ∨ a1 = 2
  · have HM := Lib.hid hm
    clear hm
    refine (callsIn_wide (n := 6)).1 ?_
    refine callsIn_of_wp_marks Try.func4 rfl trivial ?_ rfl
    simp only [Try.ntmps4, List.size_toArray, List.length_cons, List.length_nil, Nat.reduceAdd, Nat.reduceSub, Array.replicate_succ, Array.replicate_zero, List.push_toArray, List.append_toArray, List.nil_append, List.cons_append]
    gi_wp2_with (first
      | (refine own_box 23 (.tmp 0) rfl rfl (.agg cv) rfl cv rfl OW OZ ?_; clear OW OZ; intro W OW OZ)
      | (refine own_alloc 4 rfl rfl _ alBool OW OZ ?_; clear OW OZ; intro W OW OZ))
    refine ⟨trivial, ?_⟩
    refine (callsIn_wide.2 (anchor9_any _)).mono ?_
    rintro e W1 ⟨rfl, hbw⟩
    obtain ⟨g1, OW2, OZ2⟩ := own_call OW OZ hbw
    clear hbw OW OZ
    have OW := OW2
    have OZ := OZ2
    clear OW2 OZ2
    gi_upto_region 3 with fail
    gi_cut [19] from 6 (fun s wx => s = .bool false ∧ W1 = wx)
    case first =>
      rcases HM.out with rfl | rfl
      · gi_wp2
        gi_meet
        exact ⟨rfl, rfl⟩
      · gi_wp2
        gi_meet
        exact ⟨rfl, rfl⟩
    case rest =>
      obtain ⟨rfl, rfl⟩ := hcut
      have HWD := Lib.hid (fun W => words_any a1 W)
      have HCH := Lib.hid (fun W => chips_any a1 W)
      have hnd := nd_of HM.out
      have HPU := Lib.hid (fun k (hk : k < wdN a1) => wholeP_succ (mode := a1) HLX.out hk)
      have HPL := Lib.hid (fun k (hk : k ≤ wdN a1) => wholeP_len (mode := a1) HLX.out hk)
      have HP0 := Lib.hid (wholeP_zero a1 xs)
      have HPA := Lib.hid (wholeP_all (mode := a1) HLX.out HM.out)
      obtain ⟨n, hn⟩ : ∃ n, chN a1 = n := ⟨_, rfl⟩
      obtain ⟨d, hd⟩ : ∃ d, wdN a1 = d := ⟨_, rfl⟩
      rw [hn, hd] at hnd
      have HN := Lib.hid hn
      have HD := Lib.hid hd
      have HND := Lib.hid hnd
      rw [hn] at HCH
      rw [hd] at HWD HPU HPL HPA
      have hd8 : d ≤ 8 := by omega
      clear hn hd hnd
      gi_wp2_with (refine own_alloc 23 rfl rfl _ alRaw OW OZ ?_; clear OW OZ; intro W OW OZ)

      refine ⟨trivial, ?_⟩
      refine (callsIn_wide.2 (HWD.out _)).mono ?_
      rintro e W2 ⟨rfl, rfl⟩
      gi_wp2
      gi_loopw [22] (fun i wr => ∃ k : Nat, k ≤ d ∧ i = .int .i64 k ∧ Own b0 w [cellsO b0 23 cv, cellsO (b0 + 1) 4 #[.bool false], cellsO g1 23 (rawV (wholeP a1 xs k))] wr) (fun i _ => d - (intOf i).toNat)
      case atStart => exact ⟨0, by omega, rfl, by rw [HP0.out]; exact OW.out⟩
      case round =>
        obtain ⟨k, hk, rfl, hO⟩ := hrel
        clear OW OZ
        have OW := Lib.hid hO
        have HK := Lib.hid hk
        clear hO hk
        by_cases hlt : k < d
        · gi_upto_region 9 with fail
          have HWO := Lib.hid (fun W => word_any xs HLX.out a1 (k : Int) W)
          rw [HCV.out] at HWO
          obtain ⟨wk, hwk⟩ : ∃ wk, wordB a1 xs (k : Int) = wk := ⟨_, rfl⟩
          have hp := HPU.out k hlt
          have hl := HPL.out k HK.out
          rw [hwk] at HWO hp
          obtain ⟨pk, hpk⟩ : ∃ pk, wholeP a1 xs k = pk := ⟨_, rfl⟩
          obtain ⟨pk', hpk'⟩ : ∃ pk, wholeP a1 xs (k + 1) = pk := ⟨_, rfl⟩
          have hl' := HPL.out (k + 1) hlt
          rw [hpk] at hp hl OW
          rw [hpk'] at hp hl'
          have HP' := Lib.hid hpk'
          have HL' := Lib.hid (And.intro hl hl')
          have HPUT := Lib.hid (fun A c W h => put_any pk hl a1 (k : Int) A wk.length c wk rfl W h)
          rw [hp] at HPUT
          clear hwk hp hl hl' hpk hpk'
          refine wpIn_region_held 8 (atD [[], [], [], [], [], [], [3, 4, 5], [0, 1, 2, 6]]) (atV [fun v _ => v = .agg (rawV pk), fun v _ => v = .int .i64 a1, fun v _ => v = .int .i64 k, fun v _ => v = .agg cv, fun v _ => v = .int .i64 a1, fun v _ => v = .int .i64 k,
            fun v W => ∃ A c, v = .slice A wk.length c ∧ RdB W A wk, fun v _ => v = .agg (rawV pk')]) BelowR (by kernel_rfl) (by kernel_rfl) BelowR.trans (BelowR.drew _)
            (StV.atV (.const _ (.const _ (.const _ (.const _ (.const _ (.const _ (.cons (fun v x y ⟨A, c, h1, h2⟩ h3 => ⟨A, c, h1, h2.below h3⟩) (.const _ .nil)))))))))
            ⟨?o0, ?o1, ?o2, ?o3, ?o4, ?o5, ?o6, ?o7, trivial⟩ ?hend
          case o0 => exact held_load free_wide rfl BelowR.refl 23 (.tmp 5) rfl fun xs w' _ hR => ⟨⟨g1, 0, none⟩, _, (putsH_old (by kernel_rfl)).trans rfl, run_loadVar_row w' g1 _ _ _ (0, 0) _ ((OW.out.step hR).get (k := 2) rfl) Try.underlying23 rfl (HIN.out _ HL'.out.1), rfl⟩
          case o3 => exact held_load free_wide rfl BelowR.refl 23 (.tmp 2) rfl fun xs w' _ hR => ⟨⟨b0, 0, none⟩, _, (putsH_old (by kernel_rfl)).trans rfl, run_loadVar_row w' b0 _ _ _ (0, 0) _ ((OW.out.step hR).get (k := 0) rfl) Try.underlying23 rfl HSX.out, rfl⟩
          case o1 => exact held_move free_wide rfl BelowR.refl (.tmp 1) (.inl rfl) fun xs w' _ _ => (putsH_old (by kernel_rfl)).trans rfl
          case o2 => exact held_move free_wide rfl BelowR.refl (.tmp 6) (.inl rfl) fun xs w' _ _ => (putsH_old (by kernel_rfl)).trans rfl
          case o4 => exact held_move free_wide rfl BelowR.refl (.tmp 1) (.inl rfl) fun xs w' _ _ => (putsH_old (by kernel_rfl)).trans rfl
          case o5 => exact held_move free_wide rfl BelowR.refl (.tmp 6) (.inl rfl) fun xs w' _ _ => (putsH_old (by kernel_rfl)).trans rfl
          case o6 =>
            refine held_call free_wide rfl 13 _ _ rfl (enters_of Try.func13 (by kernel_rfl) rfl) fun xs w' hk hR => ⟨#[.agg cv, .int .i64 a1, .int .i64 k], ?_, ?_⟩
            · have h1 : xs 3 = .agg cv := hk 3 (by decide)
              have h2 : xs 4 = .int .i64 a1 := hk 4 (by decide)
              have h3 : xs 5 = .int .i64 k := hk 5 (by decide)
              simp only [List.map_toArray, List.map_cons, List.map_nil]
              rw [putsH_tmp (i := 3) (by kernel_rfl) (by kernel_rfl), putsH_tmp (i := 4) (by kernel_rfl) (by kernel_rfl), putsH_tmp (i := 5) (by kernel_rfl) (by kernel_rfl), h1, h2, h3]
            · refine (callsIn_wide.2 (HWO.out w')).mono ?_
              rintro e w2 ⟨A, c, rfl, h1, h2⟩
              exact ⟨_, rfl, ⟨A, c, rfl, h1⟩, h2⟩
          case o7 =>
            refine held_call free_wide rfl 14 _ _ rfl (enters_of Try.func14 (by kernel_rfl) rfl) fun xs w' hk hR => ?_
            have h1 : xs 0 = .agg (rawV pk) := hk 0 (by decide)
            have h2 : xs 1 = .int .i64 a1 := hk 1 (by decide)
            have h3 : xs 2 = .int .i64 k := hk 2 (by decide)
            obtain ⟨A, c, h4, h5⟩ : ∃ A c, xs 6 = .slice A wk.length c ∧ RdB w' A wk := hk 6 (by decide)
            refine ⟨#[.agg (rawV pk), .int .i64 a1, .int .i64 k, .slice A wk.length c], ?_, ?_⟩
            · simp only [List.map_toArray, List.map_cons, List.map_nil]
              rw [putsH_tmp (i := 0) (by kernel_rfl) (by kernel_rfl), putsH_tmp (i := 1) (by kernel_rfl) (by kernel_rfl), putsH_tmp (i := 2) (by kernel_rfl) (by kernel_rfl), putsH_tmp (i := 6) (by kernel_rfl) (by kernel_rfl), h1, h2, h3, h4]
            · refine (callsIn_wide.2 (HPUT.out A c w' h5)).mono ?_
              rintro e w2 ⟨rfl, h2⟩
              exact ⟨_, rfl, rfl, h2⟩
          case hend =>
            intro xs w' hv hR
            have h7 : xs 7 = .agg (rawV pk') := hv 7 (by omega)
            simp only [List.take_succ_cons, List.take_zero, List.drop_succ_cons, List.drop_zero, putsH, Act.put, List.setIfInBounds_toArray, List.set_cons_succ, List.set_cons_zero, h7]
            have OW2 := Lib.hid (OW.out.step hR)
            obtain ⟨G, OZ⟩ := own_size OW2 HB0
            clear hv hR OW
            have OW := OW2
            clear OW2
            have C1 := Lib.hid (show (rawV pk').size = (rawV pk).size by rw [rawV_size, rawV_size, HL'.out.1, HL'.out.2])
            gi_wp2_with (refine own_storeRow 2 23 (.tmp 5) (.tmp 32) rfl rfl rfl rfl (rawV pk') rfl C1.out (rawV_one _) (HIN.out _ HL'.out.2) _ rfl OW OZ ?_; clear OW OZ; intro W OW OZ)
            go_roundw
            case rel => exact ⟨k + 1, hlt, by go_num, by rw [HP'.out]; exact OW.out⟩
            case measure => simp [intOf]; omega
        · have HPA' := HPA.out
          obtain rfl : k = d := by have := HK.out; omega
          rw [HPA', HCV.out] at OW
          obtain ⟨g2, OZ⟩ := own_size OW HB0
          clear HPA' HPA HPU HPL HK hlt
          have HSI := Lib.hid (fun c (hc : c < n) j (hj : j < k) => seenA_set (n := n) (c := c) (j := j) hc (by have := HND.out; rcases this with ⟨rfl, rfl⟩ | ⟨rfl, rfl⟩ <;> omega))
          have H72 := Lib.hid (fun c (hc : c < n) i (hi : i < k) => (show n * i + c < 72 by
            have := HND.out
            rcases this with ⟨rfl, rfl⟩ | ⟨rfl, rfl⟩ <;> omega))
          have HOF := Lib.hid (fun (c : Nat) (hc : c < n) => (show ofL a1 (c : Int) = (List.range k).map fun w => n * w + c by
            rw [ofL_in ⟨by omega, by rw [HN.out]; omega⟩, HN.out, HD.out]; rfl))
          have HS0 := Lib.hid (seenA_zero n)
          have HSN := Lib.hid (fun c => seenA_next (n := n) (c := c) (d := k) (by have := HND.out; rcases this with ⟨rfl, rfl⟩ | ⟨rfl, rfl⟩ <;> omega))
          gi_wp2_with (refine own_alloc 34 rfl rfl _ alSeen OW OZ ?_; clear OW OZ; intro W OW OZ)
          refine ⟨trivial, ?_⟩
          refine (callsIn_wide.2 (HCH.out _)).mono ?_
          rintro e W3 ⟨rfl, rfl⟩
          gi_wp2
          refine wpIn_loop_marks [8, 36, 37, 38, 39, 40, 41, 54] (fun f Ds wr => ∃ c : Nat, c ≤ n ∧ f 36 = .int .i64 c ∧ Own b0 w ([cellsO b0 23 cv, cellsO (b0 + 1) 4 #[.bool false], cellsO g1 23 cv, cellsO g2 34 (seenA n c 0)] ++ Ds.map markO) wr) (fun f => n - (intOf (f 36)).toNat) [] rfl ?start ?round
          case start => exact ⟨0, Nat.zero_le _, rfl, by rw [HS0.out]; exact OW.out⟩
          case round =>
            rintro f Ds wr ⟨c, hc, hf, hO⟩
            clear OW OZ
            have OW := Lib.hid hO
            simp only [putSlots, List.setIfInBounds_toArray, List.set_cons_succ, List.set_cons_zero, hf]
            obtain ⟨g3, OZ⟩ := own_size OW HB0
            have hn36 : n ≤ 36 := by have := HND.out; omega
            clear hO hf
            by_cases hlt : c < n
            · gi_wp2_with fail
              refine ⟨trivial, ?_⟩
              refine (callsIn_wide.2 (of_any _ _ _)).mono ?_
              rintro e U ⟨rfl, hU⟩
              rw [OZ.out.1]
              have hOU : Own b0 w ([cellsO b0 23 cv, cellsO (b0 + 1) 4 #[.bool false], cellsO g1 23 cv, cellsO g2 34 (seenA n c 0)] ++ Ds.map markO ++ [cellsO g3 3 #[.int .i64 a1], cellsO (g3 + 1) 3 #[.int .i64 c]]) U := by
                have h1 := OW.out.alloc (by rw [OZ.out.1]; exact OZ.out.2) (.cells #[.int .i64 a1] 3)
                have h2 := h1.alloc (by simp; rw [OZ.out.1]; have := OZ.out.2; omega) (.cells #[.int .i64 c] 3)
                rw [← hU] at h2
                simpa [OZ.out.1] using h2
              have hZU : U.heap.size = g3 + 2 ∧ b0 ≤ g3 + 2 := ⟨by rw [hU]; simp [OZ.out.1], by have := OZ.out.2; omega⟩
              clear OW OZ hU
              have OW := Lib.hid hOU
              have OZ := Lib.hid hZU
              clear hOU hZU
              gi_wp2
              refine own_iter (n := 6) rfl (by omega) (gf := 25) (lb := #[.pointer (some ⟨g3, 0, none⟩), .pointer (some ⟨g3 + 1, 0, none⟩)]) rfl trivial (enters_of Try.func25 (by kernel_rfl) rfl)
                (of_iter (6 - 1) (by omega) g3 (g3 + 1) a1 c) HB0.out
                (fun i Ls => Ls = [cellsO b0 23 cv, cellsO (b0 + 1) 4 #[.bool false], cellsO g1 23 cv, cellsO g2 34 (seenA n c i)] ++ Ds.map markO ++ [cellsO g3 3 #[.int .i64 a1], cellsO (g3 + 1) 3 #[.int .i64 c]])
                (fun _ _ _ => False) rfl OW OZ ?hSt ?hK (fun _ => rfl) ?act1 ?assign ?body ?done ?stop
              case hSt =>
                intro W' hW'
                have h1 := OW.out.mem (g := g3) (t := 3) (cs := #[.int .i64 a1]) (by simp)
                have h2 := OW.out.mem (g := g3 + 1) (t := 3) (cs := #[.int .i64 c]) (by simp)
                exact ⟨by rw [World.cell?_of_block (a := ⟨g3, 0, none⟩) (hW' g3 h1.lt)]; exact h1.cell 0, by rw [World.cell?_of_block (a := ⟨g3 + 1, 0, none⟩) (hW' (g3 + 1) h2.lt)]; exact h2.cell 0⟩
              case hK =>
                rintro b (rfl | rfl)
                · exact ⟨cellsO b 3 #[.int .i64 a1], by simp, rfl⟩
                · exact ⟨cellsO (g3 + 1) 3 #[.int .i64 c], by simp, rfl⟩
              case assign =>
                intro l x W K hK
                gi_wp2
                exact hK
              case body =>
                rintro l i x Ls W1 G1 hx rfl OW1 OW2 OZ1 OM
                rw [HOF.out c hlt] at hx
                have hi : i < k := by have := (List.getElem?_eq_some_iff.1 hx).1; rw [List.length_map, List.length_range] at this; exact this
                rw [List.getElem?_map, List.getElem?_range hi] at hx
                obtain rfl : n * i + c = x := Option.some.inj hx
                have hp := H72.out c hlt i hi
                have e0 := (OW2.out.blk (k := 3) rfl).cell (n * i + c)
                rw [seenA_get _ _ _ hp, seenN_at hlt] at e0
                have f0 := (OW2.out.blk (k := 3) rfl).frozen (n * i + c)
                have h3 := OW2.out.setc (k := 3) (i := n * i + c) rfl (.int .i64 1)
                rw [HSI.out c hlt i hi] at h3
                obtain ⟨x, hx⟩ : ∃ x, n * i + c = x := ⟨_, rfl⟩
                rw [hx] at e0 f0 h3 hp ⊢
                have H3 := Lib.hid h3
                have i1 : (x : Int) ≤ 71 := by omega
                have i2 : (x : Int) < 72 := by omega
                clear hx h3 hi hp OW1 OZ1
                gi_wp2
                exact OwnNext.mk3 (A' := [cellsO b0 23 cv, cellsO (b0 + 1) 4 #[.bool false], cellsO g1 23 cv, cellsO g2 34 (seenA n c (i + 1))]) [] (by simpa using H3.out) (by simp) rfl rfl rfl (by
                  rintro b (rfl | rfl)
                  · exact ⟨cellsO b 3 #[.int .i64 a1], by simp, by simp, rfl⟩
                  · exact ⟨cellsO (g3 + 1) 3 #[.int .i64 c], by simp, by simp, rfl⟩) rfl rfl rfl
              case stop => rintro D c' i Ls W2 G2 hi h; exact h.elim
              case done =>
                rintro D Ls W2 G2 rfl OW1 OZ1
                rw [HOF.out c hlt, List.length_map, List.length_range, HSN.out c] at OW1
                have OW3 := Lib.hid (OW1.out.mark HB0)
                clear OW OZ OW1
                have OW := OW3
                have OZ := OZ1
                clear OZ1 OW3
                gi_wp2
                exact ⟨D :: Ds, rfl, by kernel_rfl, ⟨c + 1, hlt, by go_num, OW.out⟩, by show n - (intOf (Value.int .i64 ((c : Int) + 1))).toNat < n - (intOf (Value.int .i64 (c : Int))).toNat; simp only [intOf]; omega⟩
            · obtain rfl : c = n := by omega
              have C3 := Lib.hid (show (Try.prog.info? 34).map (·.size) = some (seenA c c 0).size by rw [seenA_size]; exact infoSeen)
              gi_wp2_with (refine own_loadRow 3 34 (.tmp 7) rfl rfl rfl rfl _ Try.underlying34 rfl C3.out OW ?_)
              have HIX := Lib.hid (fun (j : Nat) (hj : j < 72) (W : World) => run_index_agg (P := Try.prog) (t := 34) (e := 3) (n := 72) (cs := seenA c c 0) (k := .i64) (i := j) (w := W) Try.underlying34 hj naInt szInt (seenA_get c c 0 hj))
              have hc0 : 0 < c := by have := HND.out; omega
              have HSL := Lib.hid (fun j => seenN_last (n := c) (i := j) hc0)
              obtain ⟨sv, hsv⟩ : ∃ sv, seenA c c 0 = sv := ⟨_, rfl⟩
              rw [hsv] at HIX OW C3 ⊢
              clear hsv hc0
              gi_loopw [56] (fun i wr => ∃ j : Nat, j ≤ 72 ∧ i = .int .i64 j ∧ Own b0 w ([cellsO b0 23 cv, cellsO (b0 + 1) 4 #[.bool false], cellsO g1 23 cv, cellsO g2 34 sv] ++ Ds.map markO) wr) (fun i _ => 72 - (intOf i).toNat)
              case atStart => exact ⟨0, by omega, rfl, OW.out⟩
              case round =>
                obtain ⟨j, hj, rfl, hO⟩ := hrel
                clear OW OZ
                have OW := Lib.hid hO
                obtain ⟨G, OZ⟩ := own_size OW HB0
                clear hO
                by_cases hl : j < 72
                · have hix := HIX.out j hl
                  rw [HSL.out j, show ((1 : Nat) : Int) = 1 from rfl] at hix
                  gi_wp2
                  go_roundw
                  case rel => exact ⟨j + 1, hl, by go_num, OW.out⟩
                  case measure => simp [intOf]; omega
                · obtain rfl : j = 72 := by omega
                  have EQ := fun W => eq_raw xs xs HLX.out HLX.out W
                  rw [HCV.out, decide_eq_true rfl] at EQ
                  have guard := guard_raw
                  gi_wp2_with (first
                    | (refine own_loadRow 2 23 (.tmp 5) rfl rfl rfl rfl _ Try.underlying23 rfl HSX.out OW ?_)
                    | (refine own_loadRow 0 23 (.tmp 2) rfl rfl rfl rfl _ Try.underlying23 rfl HSX.out OW ?_)
                    | (refine own_store 1 4 (.tmp 4) (.tmp 64) rfl rfl rfl rfl (.bool true) rfl #[.bool true] rfl (by decide) rfl szBool _ rfl OW OZ ?_; clear OW OZ; intro W OW OZ))
                  have OW3 : Own b0 w ([cellsO b0 23 cv, cellsO (b0 + 1) 4 #[.bool true], cellsO g1 23 cv, cellsO g2 34 sv] ++ Ds.map markO) W := OW.out
                  refine leaves_own _ _ (Nat.le_of_eq HB0.out) OW3 ?_
                  intro W' hO
                  exact ⟨_, results_own hO 1 rfl rfl rfl rfl naBool, rfl, hO.done HB0⟩
  · have m1 : (a1 != 1) = true := by rw [bne_iff_ne]; omega
    have m2 : (a1 != 2) = true := by rw [bne_iff_ne]; omega
    clear hm
    refine (callsIn_wide (n := 6)).1 ?_
    refine callsIn_of_wp_marks Try.func4 rfl trivial ?_ rfl
    simp only [Try.ntmps4, List.size_toArray, List.length_cons, List.length_nil, Nat.reduceAdd, Nat.reduceSub, Array.replicate_succ, Array.replicate_zero, List.push_toArray, List.append_toArray, List.nil_append, List.cons_append]
    gi_wp2_with (first
      | (refine own_box 23 (.tmp 0) rfl rfl (.agg cv) rfl cv rfl OW OZ ?_; clear OW OZ; intro W OW OZ)
      | (refine own_alloc 4 rfl rfl _ alBool OW OZ ?_; clear OW OZ; intro W OW OZ))
    refine ⟨trivial, ?_⟩
    refine (callsIn_wide.2 (anchor9_any _)).mono ?_
    rintro e W1 ⟨rfl, hbw⟩
    obtain ⟨g1, OW2, OZ2⟩ := own_call OW OZ hbw
    clear hbw OW OZ
    have OW := OW2
    have OZ := OZ2
    clear OW2 OZ2
    gi_wp2_with (first | (refine own_store 1 4 (.tmp 4) (.const (.bool true)) rfl rfl rfl rfl (.bool true) rfl #[.bool true] rfl (by decide) rfl szBool _ rfl OW OZ ?_; clear OW OZ; intro W OW OZ))
    refine leaves_own [] _ (Nat.le_of_eq HB0.out) (by simpa using OW.out) fun W' hO => ⟨_, results_own hO 1 rfl rfl rfl rfl naBool, rfl, hO.done HB0⟩
end Go.Proofs.Ythfncfcajjecbaa
