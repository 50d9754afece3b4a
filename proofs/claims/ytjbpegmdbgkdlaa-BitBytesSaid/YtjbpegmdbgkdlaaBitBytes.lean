/- BitBytes, walked: for every a, b, i the law returns true. -/
import Derived.Test.YtjbpegmdbgkdlaaBitPl
import Derived.Test.YtjbpegmdbgkdlaaBitBm
import Derived.Test.YtjbpegmdbgkdlaaBitDf
import Derived.Test.YtjbpegmdbgkdlaaBitA
import Derived.Test.YtjbpegmdbgkdlaaQTail
import Derived.Test.YtjbpegmdbgkdlaaGrw
import Derived.Test.YtjbpegmdbgkdlaaSlc
import Derived.Deep.QuietTactic
import Derived.BigQuiet
import Derived.OpenShut
namespace Go.Proofs.Ytjbpegmdbgkdlaa
open Go.RowKit Go.Shelf
attribute [local go_sem] Oper.semAt_some

theorem lit_i64b {a : Int} (h : (Lit.int .i64 a).wf = true) : -9223372036854775808 ≤ a ∧ a ≤ 9223372036854775807 := bounds_i64 h

set_option maxHeartbeats 2000000 in
set_option maxRecDepth 100000 in
theorem BitBytes_walk (A0 : Option Addr) (n0 c0 : Nat) (z0 : List Int) (A1 : Option Addr) (n1 c1 : Nat) (z1 : List Int) (a2 : Int) (w : World)
    (r0 : IsRow .u8 w A0 n0 c0 z0) (r1 : IsRow .u8 w A1 n1 c1 z1) (w2 : (Lit.int .i64 a2).wf = true) :
    Calls Try.prog 4 #[.slice A0 n0 c0, .slice A1 n1 c1, .int .i64 a2] w fun e w' => e = .returned (.bool true) ∧ Below w.heap.size w w' := by
  obtain ⟨xs, hx0, hx1, hx2, hx3⟩ := r0.bytes
  obtain ⟨ys, hy0, hy1, hy2, hy3⟩ := r1.bytes
  obtain ⟨v0, v1⟩ := lit_i64b w2
  clear r0 r1 w2
  unfold maxLen at hx2 hy2
  have hA : ∀ b, bl A0 b → 0 < n0 → b < w.heap.size := by
    rintro b ⟨a, rfl, rfl⟩ hn
    obtain ⟨b', o', h', hb', _⟩ := hx3 0 (by omega)
    cases h'; exact hb'
  have hB : ∀ b, bl A1 b → 0 < n1 → b < w.heap.size := by
    rintro b ⟨a, rfl, rfl⟩ hn
    obtain ⟨b', o', h', hb', _⟩ := hy3 0 (by omega)
    cases h'; exact hb'
  have HA := Lib.hid hA
  have HB := Lib.hid hB
  clear hA hB
  have HX := Lib.hid hx0
  have HY := Lib.hid hy0
  have RX := Lib.hid hx3
  have RY := Lib.hid hy3
  clear hx0 hy0 hx3 hy3
  by_cases hbig : 200 < n0 ∨ 200 < n1
  · by_cases g0 : 200 < n0
    · refine (callsIn_wide (n := 6)).1 ?_
      refine callsIn_of_wp_marks Try.func4 rfl trivial ?_ rfl
      simp only [Try.ntmps4, List.size_toArray, List.length_cons, List.length_nil, Nat.reduceAdd, Nat.reduceSub, Array.replicate_succ, Array.replicate_zero, List.push_toArray, List.append_toArray, List.nil_append, List.cons_append]
      gi_wp2_with fail
      refine ⟨trivial, ?_⟩
      refine (callsIn_wide.2 (anchor3_any _)).mono ?_
      rintro e w1 ⟨rfl, hw1⟩
      simp only [World.size_alloc] at hw1 ⊢
      obtain ⟨b0, hb0⟩ : ∃ b0, w.heap.size = b0 := ⟨_, rfl⟩
      have hl : ∀ b, b < b0 + 1 + 1 + 1 → w1.heap[b]? = (((w.alloc (.cells #[.slice A0 n0 c0] 22)).alloc (.cells #[.slice A1 n1 c1] 22)).alloc (.cells #[.bool false] 4)).heap[b]? := fun b hb => hw1.block b (by omega)
      have K0 : Blk w1 b0 22 #[.slice A0 n0 c0] := (hl b0 (by omega)).trans (by rw [← hb0]; exact ((Blk.new w _ _).alloc _).alloc _)
      have K1 : Blk w1 (b0 + 1) 22 #[.slice A1 n1 c1] := (hl (b0 + 1) (by omega)).trans (by
        rw [← hb0]; have h := (Blk.new (w.alloc (.cells #[.slice A0 n0 c0] 22)) 22 #[.slice A1 n1 c1]).alloc (.cells #[.bool false] 4); rw [World.size_alloc] at h; exact h)
      have K2 : Blk w1 (b0 + 1 + 1) 4 #[.bool false] := (hl (b0 + 1 + 1) (by omega)).trans (by
        rw [← hb0]; have h := (Blk.new ((w.alloc (.cells #[.slice A0 n0 c0] 22)).alloc (.cells #[.slice A1 n1 c1] 22)) 4 #[.bool false]); rw [World.size_alloc, World.size_alloc] at h; exact h)
      have KB : Below b0 w w1 := by
        rw [← hb0]; exact (((Below.refl w.heap.size w).alloc (Nat.le_refl _) _).alloc (by simp) _ |>.alloc (by simp; omega) _).trans (hw1.mono (by omega))
      have KZ : b0 + 1 + 1 + 1 ≤ w1.heap.size := by have := hw1.size; simp at this; omega
      rw [hb0] at hw1 ⊢
      have HB0 := Lib.hid hb0
      have e0 := K0.cell 0
      have e1 := K1.cell 0
      have e2 := K2.cell 0
      have f2 := K2.frozen 0
      simp only [List.getElem?_toArray, List.getElem?_cons_zero] at e0 e1 e2
      have HK0 := Lib.hid K0
      have HK1 := Lib.hid K1
      have HK2 := Lib.hid K2
      have HKB := Lib.hid KB
      have HKZ := Lib.hid KZ
      clear hw1 hl hb0 K0 K1 K2 KB KZ
      gi_wp2
      refine ⟨_, by simp [results, Try.results4, go_sem, e2], rfl, ?_⟩
      have q := HKB.out
      rw [← HB0.out] at q
      exact q.setCell (p := ⟨b0 + 1 + 1, 0, none⟩) (by have := HB0.out; show w.heap.size ≤ b0 + 1 + 1; omega) _
    · have g1 : 200 < n1 := by omega
      clear hbig
      refine (callsIn_wide (n := 6)).1 ?_
      refine callsIn_of_wp_marks Try.func4 rfl trivial ?_ rfl
      simp only [Try.ntmps4, List.size_toArray, List.length_cons, List.length_nil, Nat.reduceAdd, Nat.reduceSub, Array.replicate_succ, Array.replicate_zero, List.push_toArray, List.append_toArray, List.nil_append, List.cons_append]
      gi_wp2_with fail
      refine ⟨trivial, ?_⟩
      refine (callsIn_wide.2 (anchor3_any _)).mono ?_
      rintro e w1 ⟨rfl, hw1⟩
      simp only [World.size_alloc] at hw1 ⊢
      obtain ⟨b0, hb0⟩ : ∃ b0, w.heap.size = b0 := ⟨_, rfl⟩
      have hl : ∀ b, b < b0 + 1 + 1 + 1 → w1.heap[b]? = (((w.alloc (.cells #[.slice A0 n0 c0] 22)).alloc (.cells #[.slice A1 n1 c1] 22)).alloc (.cells #[.bool false] 4)).heap[b]? := fun b hb => hw1.block b (by omega)
      have K0 : Blk w1 b0 22 #[.slice A0 n0 c0] := (hl b0 (by omega)).trans (by rw [← hb0]; exact ((Blk.new w _ _).alloc _).alloc _)
      have K1 : Blk w1 (b0 + 1) 22 #[.slice A1 n1 c1] := (hl (b0 + 1) (by omega)).trans (by
        rw [← hb0]; have h := (Blk.new (w.alloc (.cells #[.slice A0 n0 c0] 22)) 22 #[.slice A1 n1 c1]).alloc (.cells #[.bool false] 4); rw [World.size_alloc] at h; exact h)
      have K2 : Blk w1 (b0 + 1 + 1) 4 #[.bool false] := (hl (b0 + 1 + 1) (by omega)).trans (by
        rw [← hb0]; have h := (Blk.new ((w.alloc (.cells #[.slice A0 n0 c0] 22)).alloc (.cells #[.slice A1 n1 c1] 22)) 4 #[.bool false]); rw [World.size_alloc, World.size_alloc] at h; exact h)
      have KB : Below b0 w w1 := by
        rw [← hb0]; exact (((Below.refl w.heap.size w).alloc (Nat.le_refl _) _).alloc (by simp) _ |>.alloc (by simp; omega) _).trans (hw1.mono (by omega))
      have KZ : b0 + 1 + 1 + 1 ≤ w1.heap.size := by have := hw1.size; simp at this; omega
      rw [hb0] at hw1 ⊢
      have HB0 := Lib.hid hb0
      have e0 := K0.cell 0
      have e1 := K1.cell 0
      have e2 := K2.cell 0
      have f2 := K2.frozen 0
      simp only [List.getElem?_toArray, List.getElem?_cons_zero] at e0 e1 e2
      have HK0 := Lib.hid K0
      have HK1 := Lib.hid K1
      have HK2 := Lib.hid K2
      have HKB := Lib.hid KB
      have HKZ := Lib.hid KZ
      clear hw1 hl hb0 K0 K1 K2 KB KZ
      gi_wp2
      refine ⟨_, by simp [results, Try.results4, go_sem, e2], rfl, ?_⟩
      have q := HKB.out
      rw [← HB0.out] at q
      exact q.setCell (p := ⟨b0 + 1 + 1, 0, none⟩) (by have := HB0.out; show w.heap.size ≤ b0 + 1 + 1; omega) _
  · have l0 : n0 ≤ 200 := by omega
    have l1 : n1 ≤ 200 := by omega
    clear hbig
    refine (callsIn_wide (n := 6)).1 ?_
    refine callsIn_of_wp_marks Try.func4 rfl trivial ?_ rfl
    simp only [Try.ntmps4, List.size_toArray, List.length_cons, List.length_nil, Nat.reduceAdd, Nat.reduceSub, Array.replicate_succ, Array.replicate_zero, List.push_toArray, List.append_toArray, List.nil_append, List.cons_append]
    gi_wp2_with fail
    refine ⟨trivial, ?_⟩
    refine (callsIn_wide.2 (anchor3_any _)).mono ?_
    rintro e w1 ⟨rfl, hw1⟩
    simp only [World.size_alloc] at hw1 ⊢
    obtain ⟨b0, hb0⟩ : ∃ b0, w.heap.size = b0 := ⟨_, rfl⟩
    have hl : ∀ b, b < b0 + 1 + 1 + 1 → w1.heap[b]? = (((w.alloc (.cells #[.slice A0 n0 c0] 22)).alloc (.cells #[.slice A1 n1 c1] 22)).alloc (.cells #[.bool false] 4)).heap[b]? := fun b hb => hw1.block b (by omega)
    have K0 : Blk w1 b0 22 #[.slice A0 n0 c0] := (hl b0 (by omega)).trans (by rw [← hb0]; exact ((Blk.new w _ _).alloc _).alloc _)
    have K1 : Blk w1 (b0 + 1) 22 #[.slice A1 n1 c1] := (hl (b0 + 1) (by omega)).trans (by
      rw [← hb0]; have h := (Blk.new (w.alloc (.cells #[.slice A0 n0 c0] 22)) 22 #[.slice A1 n1 c1]).alloc (.cells #[.bool false] 4); rw [World.size_alloc] at h; exact h)
    have K2 : Blk w1 (b0 + 1 + 1) 4 #[.bool false] := (hl (b0 + 1 + 1) (by omega)).trans (by
      rw [← hb0]; have h := (Blk.new ((w.alloc (.cells #[.slice A0 n0 c0] 22)).alloc (.cells #[.slice A1 n1 c1] 22)) 4 #[.bool false]); rw [World.size_alloc, World.size_alloc] at h; exact h)
    have KB : Below b0 w w1 := by
      rw [← hb0]; exact (((Below.refl w.heap.size w).alloc (Nat.le_refl _) _).alloc (by simp) _ |>.alloc (by simp; omega) _).trans (hw1.mono (by omega))
    have KZ : b0 + 1 + 1 + 1 ≤ w1.heap.size := by have := hw1.size; simp at this; omega
    rw [hb0] at hw1 ⊢
    have HB0 := Lib.hid hb0
    have e0 := K0.cell 0
    have e1 := K1.cell 0
    have e2 := K2.cell 0
    have f2 := K2.frozen 0
    simp only [List.getElem?_toArray, List.getElem?_cons_zero] at e0 e1 e2
    have HK0 := Lib.hid K0
    have HK1 := Lib.hid K1
    have HK2 := Lib.hid K2
    have HKB := Lib.hid KB
    have HKZ := Lib.hid KZ
    clear hw1 hl hb0 K0 K1 K2 KB KZ
    have t0 : decide ((200 : Int) < (n0 : Int)) = false := by simp; omega
    have t1 : decide ((200 : Int) < (n1 : Int)) = false := by simp; omega
    obtain ⟨rx, ry⟩ : RdB w1 A0 xs ∧ RdB w1 A1 ys := by
      have h := HKB.out
      rw [← HB0.out] at h
      exact ⟨RX.out.below h, RY.out.below h⟩
    have FL := Lib.hid (flip_any A0 n0 c0 xs HX.out (by omega) a2 v0 v1 w1 rx)
    have RX1 := Lib.hid rx
    have RY1 := Lib.hid ry
    clear rx ry
    gi_wp2_with fail
    refine ⟨trivial, ?_⟩
    refine (callsIn_wide.2 FL.out).mono ?_
    rintro e W ⟨A2, c2, rfl, _, rf, hbw⟩
    have kz := HKZ.out
    have M0 := HK0.out.below hbw (by omega)
    have M1 := HK1.out.below hbw (by omega)
    have M2 := HK2.out.below hbw (by omega)
    have MB : Below b0 w W := HKB.out.trans (hbw.mono (by omega))
    have MX := RX1.out.below hbw
    have MY := RY1.out.below hbw
    have MZ : b0 + 1 + 1 + 1 ≤ W.heap.size := Nat.le_trans kz hbw.size
    clear e0 e1 e2 f2 kz HK0 HK1 HK2 HKB HKZ RX1 RY1 FL hbw
    have e0 := M0.cell 0
    have e1 := M1.cell 0
    have e2 := M2.cell 0
    have f2 := M2.frozen 0
    simp only [List.getElem?_toArray, List.getElem?_cons_zero] at e0 e1 e2
    have NM0 := Lib.hid M0
    have NM1 := Lib.hid M1
    have NM2 := Lib.hid M2
    have NMB := Lib.hid MB
    have NMX := Lib.hid MX
    have NMY := Lib.hid MY
    have NMZ := Lib.hid MZ
    have NF := Lib.hid rf
    clear M0 M1 M2 MB MX MY MZ rf
    obtain ⟨th, hth⟩ : ∃ th, decide (0 ≤ a2 ∧ a2.toNat / 8 < n0) = th := ⟨_, rfl⟩
    have HTH := Lib.hid hth
    clear hth
    gi_upto_region 6 with fail
    gi_cut [8] from 27 (fun s wx => s = .bool th ∧ W = wx)
    case first =>
      by_cases hi : 0 ≤ a2
      · obtain ⟨p, rfl⟩ := Int.eq_ofNat_of_zero_le hi
        obtain ⟨q, hq⟩ : ∃ q, p / 8 = q := ⟨_, rfl⟩
        have t1 : Int.tdiv (p : Int) 8 = (q : Int) := by rw [← hq]; rfl
        have hqb : q ≤ 9223372036854775807 := by omega
        by_cases hp : q < n0
        · have HT := Lib.hid (show true = th by rw [← HTH.out]; simp; omega)
          clear hq
          gi_wp2
          gi_meet
          exact ⟨by rw [HT.out], rfl⟩
        · have HT := Lib.hid (show false = th by rw [← HTH.out]; simp; omega)
          clear hq
          gi_wp2
          gi_meet
          exact ⟨by rw [HT.out], rfl⟩
      · have HT := Lib.hid (show false = th by rw [← HTH.out]; simp; omega)
        gi_wp2
        gi_meet
        exact ⟨by rw [HT.out], rfl⟩
    case rest =>
      obtain ⟨rfl, rfl⟩ := hcut
      have hfl : (flipI xs a2).length = n0 := by rw [flipI_length]; exact HX.out
      have GA := fun k => get_any A0 n0 c0 xs HX.out a2 v0 v1 (W.drewN k) NMX.out
      have GR := fun k => refGet_any A0 n0 c0 xs HX.out (by unfold maxLen; omega) a2 v0 v1 (W.drewN k) NMX.out
      have GF := fun k => get_any A2 n0 c2 (flipI xs a2) hfl a2 v0 v1 (W.drewN k) NF.out
      have GD := fun k => refDiffer_any A0 A2 n0 n0 c0 c2 xs (flipI xs a2) HX.out hfl (by omega) (by unfold maxLen; omega) (W.drewN k) NMX.out NF.out
      obtain ⟨X, hX⟩ : ∃ X, bitI (flipI xs a2) a2 = X := ⟨_, rfl⟩
      obtain ⟨Y, hY⟩ : ∃ Y, bitI xs a2 = Y := ⟨_, rfl⟩
      obtain ⟨Z, hZ⟩ : ∃ Z, dfTo xs (flipI xs a2) (8 * n0) = Z := ⟨_, rfl⟩
      have hXY : (th = true ∧ ((X = 0 ∧ Y = 1) ∨ (X = 1 ∧ Y = 0)) ∧ Z = 1) ∨ (th = false ∧ X = Y ∧ Z = 0) := by
        by_cases hin : 0 ≤ a2 ∧ a2.toNat / 8 < n0
        · obtain ⟨p, rfl⟩ := Int.eq_ofNat_of_zero_le hin.1
          have hin2 : p / 8 < xs.length := by rw [HX.out]; have := hin.2; simpa using this
          have h1 := flipI_ne hin2
          rw [hX, hY] at h1
          have h2 := bitI_lt xs (p : Int)
          rw [hY] at h2
          have h3 := dfTo_flip hin2 (8 * n0)
          rw [hZ, if_pos (by rw [HX.out] at hin2; omega)] at h3
          exact .inl ⟨by rw [← HTH.out]; exact decide_eq_true hin, by omega, h3⟩
        · have h1 := flipI_out (xs := xs) (i := a2) (by rw [HX.out]; exact hin)
          rw [h1] at hX hZ
          exact .inr ⟨by rw [← HTH.out]; exact decide_eq_false hin, by rw [← hX, ← hY], by rw [← hZ]; exact dfTo_self _ _⟩
      rw [hX] at GF
      rw [hY] at GA GR
      rw [hZ] at GD
      have HGA := Lib.hid GA
      have HGR := Lib.hid GR
      have HGF := Lib.hid GF
      have HGD := Lib.hid GD
      clear GA GR GF GD hX hY hZ hfl
      gi_upto_region 7 with fail
      gi_cut [79] from 36 (fun s wx => s = .bool false ∧ ∃ k, wx = W.drewN k)
      case first =>
        rcases hXY with ⟨rfl, ⟨rfl, rfl⟩ | ⟨rfl, rfl⟩, rfl⟩ | ⟨rfl, rfl, rfl⟩
        all_goals
          refine wpIn_wide.2 ?_
          go_quiet ((first | (go_at_call 10; first | with_reducible exact Calls.quiet_of_same ((HGA.out _).mono fun _ _ h => ⟨h.1, h.2.symm⟩) | with_reducible exact Calls.quiet_of_same ((HGF.out _).mono fun _ _ h => ⟨h.1, h.2.symm⟩)) | (go_at_call 11; exact Calls.quiet_of_same ((HGR.out _).mono fun _ _ h => ⟨h.1, h.2.symm⟩)) | (go_at_call 9; exact Calls.quiet_of_same ((HGD.out _).mono fun _ _ h => ⟨h.1, h.2.symm⟩))))
          gi_wp2
          gi_meet
          exact ⟨rfl, nq, rfl⟩
      case rest =>
        obtain ⟨rfl, k, rfl⟩ := hcut
        clear hXY HGA HGR HGF HGD HTH NF
        obtain ⟨V, hV⟩ : ∃ V, W.drewN k = V := ⟨_, rfl⟩
        rw [hV]
        replace e0 : V.cell? ⟨b0, 0, none⟩ = some (.slice A0 n0 c0) := by rw [← hV]; exact e0
        replace e1 : V.cell? ⟨b0 + 1, 0, none⟩ = some (.slice A1 n1 c1) := by rw [← hV]; exact e1
        replace e2 : V.cell? ⟨b0 + 1 + 1, 0, none⟩ = some (.bool false) := by rw [← hV]; exact e2
        replace f2 : V.frozen? ⟨b0 + 1 + 1, 0, none⟩ = false := by rw [← hV]; exact f2
        have M0 := Lib.hid (show Blk V b0 22 #[.slice A0 n0 c0] by rw [← hV]; exact NM0.out)
        have M1 := Lib.hid (show Blk V (b0 + 1) 22 #[.slice A1 n1 c1] by rw [← hV]; exact NM1.out)
        have M2 := Lib.hid (show Blk V (b0 + 1 + 1) 4 #[.bool false] by rw [← hV]; exact NM2.out)
        have MB := Lib.hid (show Below b0 w V by rw [← hV]; exact below_drewN NMB.out k)
        have MX := Lib.hid (show RdB V A0 xs by rw [← hV]; exact NMX.out.drewN k)
        have MY := Lib.hid (show RdB V A1 ys by rw [← hV]; exact NMY.out.drewN k)
        have MZ := Lib.hid (show b0 + 1 + 1 + 1 ≤ V.heap.size by rw [← hV]; exact NMZ.out)
        clear NM0 NM1 NM2 NMB NMX NMY NMZ hV
        obtain ⟨N, hN⟩ : ∃ N, min n0 n1 = N := ⟨_, rfl⟩
        have hNI : min (n0 : Int) (n1 : Int) = (N : Int) := by omega
        have hN0 : N ≤ n0 := by omega
        have hN1 : N ≤ n1 := by omega
        have HN := Lib.hid hN
        clear hN
        gi_upto_region 10 with fail
        have sl0 := sliceAt_low A0 n0 c0 N (by omega)
        have sl1 := sliceAt_low A1 n1 c1 N (by omega)
        have GD := fun k => refDiffer_any A0 A1 N N c0 c1 (xs.take N) (ys.take N) (by rw [List.length_take, HX.out]; omega) (by rw [List.length_take, HY.out]; omega) (by omega) (by unfold maxLen; omega) (V.drewN k) (MX.out.take N) (MY.out.take N)
        simp only [dfTo_take] at GD
        obtain ⟨D, hD⟩ : ∃ D, dfB xs ys N = D := ⟨_, rfl⟩
        rw [hD] at GD
        have HD := Lib.hid hD
        have HGD := Lib.hid GD
        clear GD hD
        refine wpIn_wide.2 ?_
        go_quiet ((go_at_call 9; exact Calls.quiet_of_same ((HGD.out _).mono fun _ _ h => ⟨h.1, h.2.symm⟩)))
        obtain ⟨U0, hU0⟩ : ∃ U0, V.drewN nq = U0 := ⟨_, rfl⟩
        rw [hU0]
        replace e0 : U0.cell? ⟨b0, 0, none⟩ = some (.slice A0 n0 c0) := by rw [← hU0]; exact e0
        replace e1 : U0.cell? ⟨b0 + 1, 0, none⟩ = some (.slice A1 n1 c1) := by rw [← hU0]; exact e1
        have L0 := Lib.hid (show Blk U0 b0 22 #[.slice A0 n0 c0] by rw [← hU0]; exact M0.out)
        have L1 := Lib.hid (show Blk U0 (b0 + 1) 22 #[.slice A1 n1 c1] by rw [← hU0]; exact M1.out)
        have L2 := Lib.hid (show Blk U0 (b0 + 1 + 1) 4 #[.bool false] by rw [← hU0]; exact M2.out)
        have LB := Lib.hid (show Below b0 w U0 by rw [← hU0]; exact below_drewN MB.out nq)
        have LX := Lib.hid (show RdB U0 A0 xs by rw [← hU0]; exact MX.out.drewN nq)
        have LY := Lib.hid (show RdB U0 A1 ys by rw [← hU0]; exact MY.out.drewN nq)
        have LZ := Lib.hid (show b0 + 1 + 1 + 1 ≤ U0.heap.size by rw [← hU0]; exact MZ.out)
        have d0 : ∀ o o', ((U0.alloc o).alloc o').cell? ⟨b0, 0, none⟩ = some (.slice A0 n0 c0) := fun o o' => ((L0.out.alloc o).alloc o').cell 0
        have d1 : ∀ o o', ((U0.alloc o).alloc o').cell? ⟨b0 + 1, 0, none⟩ = some (.slice A1 n1 c1) := fun o o' => ((L1.out.alloc o).alloc o').cell 0
        clear M0 M1 M2 MB MX MY MZ hU0 e2 f2 HGD sl0 sl1
        gi_wp2_with fail
        refine ⟨trivial, ?_⟩
        refine (callsIn_wide.2 (places_any _ _ _ _ _ _ _)).mono ?_
        rintro e w3 ⟨rfl, hw3⟩
        simp only [World.size_alloc] at hw3 ⊢
        obtain ⟨bs, hbs⟩ : ∃ bs, U0.heap.size = bs := ⟨_, rfl⟩
        have zs : b0 + 1 + 1 + 1 ≤ bs := by rw [← hbs]; exact LZ.out
        have V0 : Blk w3 b0 22 #[.slice A0 n0 c0] := by rw [hw3]; exact ((((L0.out.alloc _).alloc _).alloc _).alloc _)
        have V1 : Blk w3 (b0 + 1) 22 #[.slice A1 n1 c1] := by rw [hw3]; exact ((((L1.out.alloc _).alloc _).alloc _).alloc _)
        have V2 : Blk w3 (b0 + 1 + 1) 4 #[.bool false] := by rw [hw3]; exact ((((L2.out.alloc _).alloc _).alloc _).alloc _)
        have VB : Below b0 w w3 := by
          rw [hw3]; have := LB.out.size; exact ((((LB.out.alloc (by omega) _).alloc (by simp; omega) _).alloc (by simp; omega) _).alloc (by simp; omega) _)
        have VX : RdB w3 A0 xs := LX.out.keep (by rw [hw3]; simp; omega) (fun p hp => by rw [hw3]; exact World.cell?_of_block ((Below.heap_alloc _ _ _ (by simp; omega)).trans ((Below.heap_alloc _ _ _ (by simp; omega)).trans ((Below.heap_alloc _ _ _ (by simp; omega)).trans (Below.heap_alloc _ _ _ hp)))))
        have VY : RdB w3 A1 ys := LY.out.keep (by rw [hw3]; simp; omega) (fun p hp => by rw [hw3]; exact World.cell?_of_block ((Below.heap_alloc _ _ _ (by simp; omega)).trans ((Below.heap_alloc _ _ _ (by simp; omega)).trans ((Below.heap_alloc _ _ _ (by simp; omega)).trans (Below.heap_alloc _ _ _ hp)))))
        have V3 : Blk w3 bs 3 #[.int .i64 0] := by rw [hw3, ← hbs]; exact (((Blk.new U0 _ _).alloc _).alloc _).alloc _
        have V4 : Blk w3 (bs + 1) 3 #[.int .i64 (-1)] := by
          rw [hw3, ← hbs]; have h := ((Blk.new (U0.alloc (.cells #[.int .i64 0] 3)) 3 #[.int .i64 (-1)]).alloc (.cells #[.slice A0 n0 c0] 22)).alloc (.cells #[.slice A1 n1 c1] 22)
          rw [World.size_alloc] at h; exact h
        have V5 : Blk w3 (bs + 2) 22 #[.slice A0 n0 c0] := by
          rw [hw3, ← hbs]; have h := (Blk.new ((U0.alloc (.cells #[.int .i64 0] 3)).alloc (.cells #[.int .i64 (-1)] 3)) 22 #[.slice A0 n0 c0]).alloc (.cells #[.slice A1 n1 c1] 22)
          rw [World.size_alloc, World.size_alloc] at h; exact h
        have V6 : Blk w3 (bs + 3) 22 #[.slice A1 n1 c1] := by
          rw [hw3, ← hbs]; have h := (Blk.new (((U0.alloc (.cells #[.int .i64 0] 3)).alloc (.cells #[.int .i64 (-1)] 3)).alloc (.cells #[.slice A0 n0 c0] 22)) 22 #[.slice A1 n1 c1])
          rw [World.size_alloc, World.size_alloc, World.size_alloc] at h; exact h
        have VZ : w3.heap.size = bs + 4 := by rw [hw3, ← hbs]; simp
        rw [hbs]
        have W0 := Lib.hid V0
        have W1 := Lib.hid V1
        have W2 := Lib.hid V2
        have W3 := Lib.hid V3
        have W4 := Lib.hid V4
        have W5 := Lib.hid V5
        have W6 := Lib.hid V6
        have WB := Lib.hid VB
        have WX := Lib.hid VX
        have WY := Lib.hid VY
        have WZ := Lib.hid VZ
        clear L0 L1 L2 LB LX LY LZ d0 d1 e0 e1 V0 V1 V2 V3 V4 V5 V6 VB VX VY VZ hw3 hbs
        gi_wp2
        have hA : ∀ b, bl A0 b → 0 < n0 → b < b0 := by rw [← HB0.out]; exact HA.out
        have hB : ∀ b, bl A1 b → 0 < n1 → b < b0 := by rw [← HB0.out]; exact HB.out
        have hK : ∀ b, plK (bs + 2) (bs + 3) A0 A1 n0 n1 b → (b < b0 ∨ b = bs + 2 ∨ b = bs + 3) := by
          rintro b (rfl | rfl | ⟨h1, h2⟩ | ⟨h1, h2⟩)
          · omega
          · omega
          · exact .inl (hA b h2 h1)
          · exact .inl (hB b h2 h1)
        have HKK := Lib.hid hK
        clear hA hB hK
        refine iter_law3 (n := 6) rfl (by omega) (gf := 14) (lb := #[.pointer (some ⟨bs + 2, 0, none⟩), .pointer (some ⟨bs + 3, 0, none⟩)]) rfl trivial (enters_of Try.func14 (by kernel_rfl) rfl)
          (places_iter (6 - 1) (by omega) (bs + 2) (bs + 3) A0 A1 n0 n1 c0 c1 xs ys HX.out HY.out l0 l1) (fun b => b < bs + 4) ?hSt ?hO (fun _ h => h.elim) ?hKl (fun _ => rfl)
          (fun i O U => O = (fun b => b < bs + 4) ∧ (∃ last : Int, -1 ≤ last ∧ Blk U (bs + 1) 3 #[.int .i64 last] ∧ ∀ p, (plTo xs ys (min n0 n1))[i]? = some p → last < p) ∧ Blk U bs 3 #[.int .i64 (i : Int)] ∧ Blk U b0 22 #[.slice A0 n0 c0] ∧ Blk U (b0 + 1) 22 #[.slice A1 n1 c1] ∧ Blk U (b0 + 1 + 1) 4 #[.bool false] ∧ Below b0 w U ∧ bs + 4 ≤ U.heap.size)
          (fun _ _ _ _ => False)
          ?hI (fun _ _ _ _ _ h _ => h.elim) ?h0 ?act1 ?assign ?body ?done (fun _ _ _ _ _ _ _ _ h _ => h.elim)
        case hSt =>
          intro U hU
          have wz := WZ.out
          have hs : ∀ b, b < bs + 4 → U.heap[b]? = w3.heap[b]? := fun b h => hU b (by omega)
          have hr : ∀ {A : Option Addr} {zs : List UInt8} {n : Nat}, zs.length = n → RdB w3 A zs → (∀ b, bl A b → 0 < n → b < b0) → RdB U A zs := by
            intro A zs n hz h hb k hk
            obtain ⟨b, o, hA, hlt, hc⟩ := h k hk
            have := hb b ⟨_, hA, rfl⟩ (by omega)
            have hsb : U.heap[b]? = w3.heap[b]? := hs b (by omega)
            exact ⟨b, o, hA, (by
              have h1 : w3.heap[b]? = some w3.heap[b] := Array.getElem?_eq_getElem hlt
              exact (Array.getElem?_eq_some_iff.1 (hsb.trans h1)).1), by rw [World.cell?_of_block (a := ⟨b, o + k, none⟩) hsb]; exact hc⟩
          refine ⟨?_, ?_, hr HX.out WX.out (by rw [← HB0.out]; exact HA.out), hr HY.out WY.out (by rw [← HB0.out]; exact HB.out)⟩
          · rw [World.cell?_of_block (a := ⟨bs + 2, 0, none⟩) (hs (bs + 2) (by omega))]; exact W5.out.cell 0
          · rw [World.cell?_of_block (a := ⟨bs + 3, 0, none⟩) (hs (bs + 3) (by omega))]; exact W6.out.cell 0
        case hO => intro b hb; have := WZ.out; omega
        case hKl => intro b hb; have := HKK.out b hb; have := WZ.out; omega
        case hI =>
          rintro i O A B ⟨rfl, ⟨last, hl, h0, hp⟩, h1, h2, h3, h4, h5, h6⟩ t
          have k := fun {b : Nat} {cs : Array Value} {ty : TypeId} (h : Blk A b ty cs) (hb : b < bs + 4) => (t.heap (fun e => e hb) h : Blk B b ty cs)
          exact ⟨rfl, ⟨last, hl, k h0 (by omega), hp⟩, k h1 (by omega), k h2 (by omega), k h3 (by omega), k h4 (by omega), h5.trans (t.below (by omega) (fun b hb => by
            rcases Nat.lt_or_ge b b0 with hlt | hge
            · exact (hb (by omega)).elim
            · exact hge)), Nat.le_trans h6 t.size⟩
        case h0 => exact ⟨rfl, ⟨-1, by omega, W4.out, fun p _ => by omega⟩, W3.out, W0.out, W1.out, W2.out, WB.out, by have := WZ.out; omega⟩
        case assign =>
          intro l x W K hK
          gi_wp2
          exact hK
        case body =>
          rintro l i p O U hy hsz ⟨rfl, ⟨last, hl, h0, hp⟩, h1, h2, h3, h4, h5, h6⟩
          have hpm := plTo_mem xs ys (min n0 n1) p (List.mem_of_getElem? hy)
          have hlt := hp p hy
          have hil : i < (plTo xs ys (min n0 n1)).length := (List.getElem?_eq_some_iff.1 hy).1
          have hnext : ∀ q, (plTo xs ys (min n0 n1))[i + 1]? = some q → (p : Int) < q := fun q hq => by
            have hr := plTo_rise xs ys (min n0 n1)
            rw [List.pairwise_iff_getElem] at hr
            obtain ⟨a1, a2⟩ := List.getElem?_eq_some_iff.1 hy
            obtain ⟨a3, a4⟩ := List.getElem?_eq_some_iff.1 hq
            have := hr i (i + 1) a1 a3 (by omega)
            omega
          have hi2 : i < 20000 := by
            have h7 := plTo_length xs ys (min n0 n1)
            have h8 := dfB_le xs ys (min n0 n1)
            omega
          have q1 : decide ((p : Int) ≤ last) = false := by simp; omega
          have hp2 : p < 1600 := by omega
          have ub : Below w.heap.size w U := by rw [HB0.out]; exact h5
          have ux := RX.out.below ub
          have uy := RY.out.below ub
          have GX := fun k => refGet_any A0 n0 c0 xs HX.out (by unfold maxLen; omega) (p : Int) (by omega) (by omega) (U.drewN k) (ux.drewN k)
          have GY := fun k => refGet_any A1 n1 c1 ys HY.out (by unfold maxLen; omega) (p : Int) (by omega) (by omega) (U.drewN k) (uy.drewN k)
          obtain ⟨X, hX⟩ : ∃ X, bitI xs (p : Int) = X := ⟨_, rfl⟩
          obtain ⟨Y, hY⟩ : ∃ Y, bitI ys (p : Int) = Y := ⟨_, rfl⟩
          rw [hX] at GX hpm
          rw [hY] at GY hpm
          have q2 : ((X : Int) == (Y : Int)) = false := by rw [beq_eq_false_iff_ne]; have := hpm.2; omega
          have e0 := h0.cell 0
          have f0 := h0.frozen 0
          have e1 := h1.cell 0
          have f1 := h1.frozen 0
          have e2 := h2.cell 0
          have e3 := h3.cell 0
          simp only [List.getElem?_toArray, List.getElem?_cons_zero] at e0 e1 e2 e3
          have g1 : ∀ v, (U.setCell ⟨bs + 1, 0, none⟩ v).cell? ⟨bs, 0, none⟩ = some (.int .i64 (i : Int)) := fun v => by rw [World.cell?_setCell_other _ _ _ _ (by intro h; injection h with h; omega)]; exact e1
          have HGX := Lib.hid GX
          have HGY := Lib.hid GY
          have HI := Lib.hid (And.intro h0 (And.intro h1 (And.intro h2 (And.intro h3 (And.intro h4 (And.intro h5 h6))))))
          have HN := Lib.hid hnext
          have HSZ := Lib.hid hsz
          clear h0 h1 h2 h3 h4 h5 h6 hp hnext hy hX hY GX GY ux uy ub hpm hsz
          have FW : Fence.wide.fn 11 := trivial
          gi_upto_region 14 with fail
          refine wpIn_region_quietR (by kernel_rfl) rfl (by kernel_rfl) ?_
          repeat (gi_big_quiet_step ((gi_at_call 11; first | with_reducible exact CallsIn.quiet_of_same (CallsIn.inRound l (callsIn_wide.2 ((HGX.out _).mono fun _ _ h => ⟨h.1, h.2.symm⟩))) | with_reducible exact CallsIn.quiet_of_same (CallsIn.inRound l (callsIn_wide.2 ((HGY.out _).mono fun _ _ h => ⟨h.1, h.2.symm⟩))))))
          refine wpQuietIn_nil ?_
          intro _ hw'
          obtain ⟨nq, hw''⟩ := hw'
          subst hw''
          gi_wp2
          obtain ⟨h0, h1, h2, h3, h4, h5, h6⟩ := HI.out
          have hO : ∀ b, b < bs + 4 → b < U.heap.size := fun b hb => by omega
          have nk : ∀ b, b = bs ∨ b = bs + 1 → ¬ plK (bs + 2) (bs + 3) A0 A1 n0 n1 b := fun b hb h => by have := HKK.out b h; omega
          refine ⟨_, (((Grow.refl _ hO).drewN nq).setCell (p := ⟨bs + 1, 0, none⟩) (.inr ⟨by show bs + 1 < bs + 4; omega, nk _ (.inr rfl)⟩) _).setCell (p := ⟨bs, 0, none⟩) (.inr ⟨by show bs < bs + 4; omega, nk _ (.inl rfl)⟩) _, rfl, ⟨p, by omega, ((h0.drewN nq).set_ 0 _).far (p := ⟨bs, 0, none⟩) (by show bs + 1 ≠ bs; omega) _, HN.out⟩, ((h1.drewN nq).far (p := ⟨bs + 1, 0, none⟩) (by show bs ≠ bs + 1; omega) _).set_ 0 _, ?_, ?_, ?_, ?_, ?_⟩
          · exact ((h2.drewN nq).far (p := ⟨bs + 1, 0, none⟩) (by show b0 ≠ bs + 1; omega) _).far (p := ⟨bs, 0, none⟩) (by show b0 ≠ bs; omega) _
          · exact ((h3.drewN nq).far (p := ⟨bs + 1, 0, none⟩) (by show b0 + 1 ≠ bs + 1; omega) _).far (p := ⟨bs, 0, none⟩) (by show b0 + 1 ≠ bs; omega) _
          · exact ((h4.drewN nq).far (p := ⟨bs + 1, 0, none⟩) (by show b0 + 1 + 1 ≠ bs + 1; omega) _).far (p := ⟨bs, 0, none⟩) (by show b0 + 1 + 1 ≠ bs; omega) _
          · exact ((below_drewN h5 nq).setCell (p := ⟨bs + 1, 0, none⟩) (by show b0 ≤ bs + 1; omega) _).setCell (p := ⟨bs, 0, none⟩) (by show b0 ≤ bs; omega) _
          · simp [World.setCell]; exact h6
        case done =>
          rintro Dm O1 U hD hnD ⟨rfl, _, h1, h2, h3, h4, h5, h6⟩ hK
          rw [plTo_length, HN.out, HD.out] at h1
          have ub : Below w.heap.size w U := by rw [HB0.out]; exact h5
          have ux := RX.out.below ub
          have uy := RY.out.below ub
          have GE := fun k => differ_any A0 A1 n0 n1 c0 c1 xs ys HX.out HY.out l0 l1 (U.drewN k) (ux.drewN k) (uy.drewN k)
          have hE : dI xs ys = 8 * (max n0 n1 - min n0 n1) + D := by unfold dI; rw [HX.out, HY.out, HN.out, HD.out]
          have hE2 : ((dI xs ys : Nat) : Int) = (D : Int) + 8 * ((n0 : Int) - (N : Int)) + 8 * ((n1 : Int) - (N : Int)) := by
            rw [hE]; have := HN.out; omega
          have hDl : D ≤ 64 * N := by rw [← HD.out]; exact dfB_le _ _ _
          rw [hE2] at GE
          have e1 := h1.cell 0
          have e2 := h2.cell 0
          have e3 := h3.cell 0
          have e4 := h4.cell 0
          have f4 := h4.frozen 0
          simp only [List.getElem?_toArray, List.getElem?_cons_zero] at e1 e2 e3 e4
          have HGE := Lib.hid GE
          have H5 := Lib.hid h5
          have HK := Lib.hid hK
          clear h1 h2 h3 h4 h5 h6 hK GE hE hE2 ub ux uy
          have FW : Fence.wide.fn 8 := trivial
          gi_upto_region 18 with fail
          refine wpIn_region_tail 22 (by kernel_rfl) (by kernel_rfl) ?_
          simp only [List.take_succ_cons, List.take_zero, List.drop_succ_cons, List.drop_zero]
          repeat (gi_big_quiet_step ((gi_at_call 8; exact CallsIn.quiet_of_same (callsIn_wide.2 ((HGE.out _).mono fun _ _ h => ⟨h.1, h.2.symm⟩)))))
          refine wpQuietIn_nil ?_
          intro _ hw'
          obtain ⟨nq, hw''⟩ := hw'
          subst hw''
          gi_wp2
          have hKD := (KeepsOthers.setCell (U.drewN nq) ⟨b0 + 1 + 1, 0, none⟩ (.bool true)).same Dm _ HK.out rfl
          refine ⟨by simp, .inl ⟨_, _, rfl, run_takeDeferred hKD, ?_⟩⟩
          have hcell := cell_kept (World.cell?_setCell_same' (U.drewN nq) ⟨b0 + 1 + 1, 0, none⟩ (.bool true) (by rw [World.cell?_drewN, e4]; rfl)) (grownBy_putObj' _ Dm (.deferred none)) (fun r e => by cases e; exact ⟨_, hKD, rfl⟩)
          refine ⟨_, by simp [results, Try.results4, go_sem, hcell], rfl, ?_⟩
          have q := H5.out
          rw [← HB0.out] at q
          exact ((below_drewN q nq).setCell (p := ⟨b0 + 1 + 1, 0, none⟩) (by have := HB0.out; show w.heap.size ≤ b0 + 1 + 1; omega) _).trans (belowK_b (w := w) (Nat.le_refl _) _ Dm _ _ (by have := HB0.out; have := WZ.out; omega) hKD rfl rfl)
end Go.Proofs.Ytjbpegmdbgkdlaa
