/- rs: 'lost', and the verdict of syndromes: walks. -/
import Derived.Test.YtdgflbbffimpkaaRsS
import Derived.Sort.CutIn
import Derived.Deep.QuietTactic
import Derived.BigQuiet
namespace Go.Proofs.Ytdgflbbffimpkaa
open Go.RowKit Go.Shelf
attribute [local go_sem] Oper.semAt_some
set_option linter.unusedVariables false
set_option linter.unusedSimpArgs false


set_option maxRecDepth 100000 in
set_option maxHeartbeats 1000000 in
theorem rsLost_any  (w : World) : Calls Try.prog 26 #[] w fun e w' => e = .returned (.agg #[.int .i64 3, .int .i64 (-1), .int .u8 0]) ∧ Below w.heap.size w w' := by
  obtain ⟨b0, hb0⟩ : ∃ b0, w.heap.size = b0 := ⟨_, rfl⟩
  have HB0 := Lib.hid hb0
  have OW := Lib.hid (Own.start b0 w)
  have OZ := Lib.hid (And.intro hb0 (Nat.le_refl b0))
  clear hb0
  refine (callsIn_wide (n := 6)).1 ?_
  refine callsIn_of_wp_marks Try.func26 rfl trivial ?_ rfl
  simp only [Try.ntmps26, List.size_toArray, List.length_cons, List.length_nil, Nat.reduceAdd, Nat.reduceSub, Array.replicate_succ, Array.replicate_zero, List.push_toArray, List.append_toArray, List.nil_append, List.cons_append]
  gi_wp2_with (first | (refine own_allocV 0 30 rfl rfl rfl #[.int .i64 0, .int .i64 0, .int .u8 0] (fun _ => by kernel_rfl) OW OZ ?_; clear OW OZ; intro W g1 OW OZ) | (refine own_valV 1 rfl rfl rfl (.agg #[.int .i64 3, .int .i64 (-1), .int .u8 0]) (run_buildO rfl (vs := #[(0, .int .i64 3), (1, .int .i64 (-1))]) rfl _ (by kernel_rfl)) ?_) | (refine own_storeSub 0 0 30 (.tmp 0) (.tmp 1) rfl rfl rfl rfl [.int .i64 3, .int .i64 (-1), .int .u8 0] rfl (Nat.le_of_ble_eq_true rfl) rfl (by kernel_rfl) #[.int .i64 3, .int .i64 (-1), .int .u8 0] rfl _ rfl OW OZ ?_; clear OW OZ; intro W OW OZ))
  refine leaves_own [] _ (Nat.le_of_eq HB0.out) (by simpa using OW.out) ?_
  intro W' hO
  exact ⟨.agg #[.int .i64 3, .int .i64 (-1), .int .u8 0], results_ownRow hO 0 rfl rfl rfl Try.underlying30 rfl (by kernel_rfl), rfl, hO.done HB0⟩

/-- A verdict's cells. -/
def vdV (x : Vd) : Array Value := #[.int .i64 (x.kind : Int), .int .i64 x.place, .int .u8 (x.val.toNat : Int)]
/-- A quotient. -/
def gd (x y : UInt8) : UInt8 := UInt8.ofNat (gdivN x.toNat y.toNat)
theorem gd_toNat (x y : UInt8) : (gd x y).toNat = gdivN x.toNat y.toNat := by unfold gd; rw [UInt8.toNat_ofNat']; exact Nat.mod_eq_of_lt (gdivN_lt _ _)
theorem gm_gd (x : UInt8) {y : UInt8} (hy : y ≠ 0) : gm (gd x y) y = x := by
  apply UInt8.toNat_inj.1
  rw [gm_toNat, gd_toNat, gdivN_mul _ _ x.toNat_lt y.toNat_lt (fun e => hy (UInt8.toNat_inj.1 e))]
theorem fdiv_any (b : Nat) (x y : UInt8) (hy : y ≠ 0) (w : World) (hF : FieldAt w b) :
    Calls Try.prog 25 #[.pointer (some ⟨b, 0, none⟩), .int .u8 (x.toNat : Int), .int .u8 (y.toNat : Int)] w fun e w' => e = .returned (.tuple #[.int .u8 ((gd x y).toNat : Int), .int .i64 0]) ∧ ∃ k, w' = w.drewN k := by
  rw [gd_toNat]
  exact div_any b _ _ x.toNat y.toNat rfl rfl x.toNat_lt y.toNat_lt (fun e => hy (UInt8.toNat_inj.1 e)) w hF
theorem flog_any (b : Nat) (x : UInt8) (hx : x ≠ 0) (w : World) (hF : FieldAt w b) :
    Calls Try.prog 27 #[.pointer (some ⟨b, 0, none⟩), .int .u8 (x.toNat : Int)] w fun e w' => e = .returned (.tuple #[.int .i64 (gL x.toNat : Int), .int .i64 0]) ∧ ∃ k, w' = w.drewN k :=
  log_any b _ x.toNat rfl x.toNat_lt (fun e => hx (UInt8.toNat_inj.1 e)) w hF

/-- The syndromes as a function. -/
def syF (s : List UInt8) (i : Nat) : UInt8 := co s i
set_option maxRecDepth 100000 in
set_option maxHeartbeats 1000000 in
theorem locate_any (cb fb : Nat) (s : List UInt8) (hs : s.length = 4) (w : World) (hC : CodeAt w cb fb) :
    Calls Try.prog 12 #[.pointer (some ⟨cb, 0, none⟩), .agg (rawV s)] w fun e w' => e = .returned (.agg (vdV (locF (co s)))) ∧ Below w.heap.size w w' := by
  obtain ⟨A5, c5, hcb, hcf, _, _⟩ := hC
  have HI4 := Lib.hid (arJ4 hs)
  have HS := Lib.hid hs
  have G := fun i (hi : i < 4) => (show (rawV s)[i]? = some (vU (co s i)) from rawV_get s (by omega))
  obtain ⟨s0, e0⟩ : ∃ x, co s 0 = x := ⟨_, rfl⟩
  obtain ⟨s1, e1⟩ : ∃ x, co s 1 = x := ⟨_, rfl⟩
  obtain ⟨s2, e2⟩ : ∃ x, co s 2 = x := ⟨_, rfl⟩
  obtain ⟨s3, e3⟩ : ∃ x, co s 3 = x := ⟨_, rfl⟩
  have G0 := G 0 (by omega)
  have G1 := G 1 (by omega)
  have G2 := G 2 (by omega)
  have G3 := G 3 (by omega)
  rw [e0] at G0
  rw [e1] at G1
  rw [e2] at G2
  rw [e3] at G3
  have HG := Lib.hid (And.intro G0 (And.intro G1 (And.intro G2 G3)))
  have HE := Lib.hid (And.intro e0 (And.intro e1 (And.intro e2 e3)))
  have hcell0 : w.cell? ⟨cb, 0, none⟩ = some (.pointer (some ⟨fb, 0, none⟩)) := hcb.cell 0
  have HCF := Lib.hid (And.intro hcb hcf)
  have HEQ := Lib.hid (fun x y W => eq_ar4 s (List.replicate 4 0) hs (List.length_replicate) x y W)
  have HNUL := Lib.hid (show decide (s = List.replicate 4 0) = decide (nul (co s)) by
    rw [decide_eq_decide]
    constructor
    · rintro rfl
      exact ⟨rfl, rfl, rfl, rfl⟩
    · rintro ⟨h0, h1, h2, h3⟩
      refine list_ext (by rw [hs, List.length_replicate]) fun i hi => ?_
      rw [hs] at hi
      have : i = 0 ∨ i = 1 ∨ i = 2 ∨ i = 3 := by omega
      rcases this with rfl | rfl | rfl | rfl
      · exact h0
      · exact h1
      · exact h2
      · exact h3)
  obtain ⟨LR, hLR⟩ : ∃ LR, locF (co s) = LR := ⟨_, rfl⟩
  have HLR := Lib.hid hLR
  rw [hLR]
  obtain ⟨b0, hb0⟩ : ∃ b0, w.heap.size = b0 := ⟨_, rfl⟩
  have HB0 := Lib.hid hb0
  have OW := Lib.hid (Own.start b0 w)
  have OZ := Lib.hid (And.intro hb0 (Nat.le_refl b0))
  clear hb0
  clear G G0 G1 G2 G3 e0 e1 e2 e3 hcb hcf hs hLR hcell0
  by_cases hn : nul (co s)
  · have hl : LR = ⟨0, -1, 0⟩ := by rw [← HLR.out]; exact locF_nul hn
    subst hl
    rw [HNUL.out, decide_eq_true hn] at HEQ
    refine (callsIn_wide (n := 6)).1 ?_
    refine callsIn_of_wp_marks Try.func12 rfl trivial ?_ rfl
    simp only [Try.ntmps12, List.size_toArray, List.length_cons, List.length_nil, Nat.reduceAdd, Nat.reduceSub, Array.replicate_succ, Array.replicate_zero, List.push_toArray, List.append_toArray, List.nil_append, List.cons_append]
    gi_wp2_with (first
      | (refine own_box 22 (.tmp 1) rfl rfl (.agg (rawV s)) rfl (rawV s) rfl OW OZ ?_; clear OW OZ; intro W OW OZ)
      | (refine own_alloc 30 rfl rfl #[.int .i64 0, .int .i64 0, .int .u8 0] (fun _ => by kernel_rfl) OW OZ ?_; clear OW OZ; intro W OW OZ)
      | (refine own_loadRow 0 22 (.tmp 3) rfl rfl rfl rfl _ Try.underlying22 rfl HI4.out OW ?_)
      | (refine own_valV 10 rfl rfl rfl (.agg (rawV (List.replicate 4 0))) (run_buildO rfl (vs := #[]) rfl _ (by kernel_rfl)) ?_)
      | (refine own_valV 11 rfl rfl rfl _ (run_binO (vx := .agg (rawV s)) (vy := .agg (rawV (List.replicate 4 0))) rfl rfl rfl (HEQ.out _ _ _)) ?_)
      | (refine own_storeSub 1 0 30 (.tmp 4) (.tmp 12) rfl rfl rfl rfl [.int .i64 0, .int .i64 (-1), .int .u8 0] rfl (Nat.le_of_ble_eq_true rfl) rfl (by kernel_rfl) #[.int .i64 0, .int .i64 (-1), .int .u8 0] rfl _ rfl OW OZ ?_; clear OW OZ; intro W OW OZ))
    refine leaves_own [] _ (Nat.le_of_eq HB0.out) (by simpa using OW.out) ?_
    intro W' hO
    exact ⟨_, results_ownRow hO 1 rfl rfl rfl Try.underlying30 rfl (by kernel_rfl), rfl, hO.done HB0⟩
  rw [HNUL.out, decide_eq_false hn] at HEQ
  refine (callsIn_wide (n := 6)).1 ?_
  refine callsIn_of_wp_marks Try.func12 rfl trivial ?_ rfl
  simp only [Try.ntmps12, List.size_toArray, List.length_cons, List.length_nil, Nat.reduceAdd, Nat.reduceSub, Array.replicate_succ, Array.replicate_zero, List.push_toArray, List.append_toArray, List.nil_append, List.cons_append]
  gi_wp2_with (first
    | (refine own_box 22 (.tmp 1) rfl rfl (.agg (rawV s)) rfl (rawV s) rfl OW OZ ?_; clear OW OZ; intro W OW OZ)
    | (refine own_alloc 30 rfl rfl #[.int .i64 0, .int .i64 0, .int .u8 0] (fun _ => by kernel_rfl) OW OZ ?_; clear OW OZ; intro W OW OZ)
    | (refine own_loadRow 0 22 (.tmp 3) rfl rfl rfl rfl _ Try.underlying22 rfl HI4.out OW ?_)
    | (refine own_valV 10 rfl rfl rfl (.agg (rawV (List.replicate 4 0))) (run_buildO rfl (vs := #[]) rfl _ (by kernel_rfl)) ?_)
    | (refine own_valV 11 rfl rfl rfl _ (run_binO (vx := .agg (rawV s)) (vy := .agg (rawV (List.replicate 4 0))) rfl rfl rfl (HEQ.out _ _ _)) ?_)
    | (refine own_storeSub 1 0 30 (.tmp 4) (.tmp 12) rfl rfl rfl rfl [.int .i64 0, .int .i64 (-1), .int .u8 0] rfl (Nat.le_of_ble_eq_true rfl) rfl (by kernel_rfl) #[.int .i64 0, .int .i64 (-1), .int .u8 0] rfl _ rfl OW OZ ?_; clear OW OZ; intro W OW OZ))
  have HFB := Lib.hid (fun (L : Objs) (V : World) (h : Own b0 w L V) => (show FieldAt V fb from h.field HB0.out HCF.out.2))
  have HCB := Lib.hid (fun (L : Objs) (V : World) (h : Own b0 w L V) => (show V.cell? ⟨cb, 0, none⟩ = some (.pointer (some ⟨fb, 0, none⟩)) from ((HCF.out.1.below (h.below (Nat.le_of_eq HB0.out.symm)) (by rw [← HB0.out]; exact HCF.out.1.lt)).cell 0)))
  have hb := OW.out.blk (k := 0) rfl
  have c0 := hb.cell 0
  have c1 := hb.cell 1
  rw [HG.out.1] at c0
  rw [HG.out.2.1] at c1
  have cc := HCB.out _ _ OW.out
  clear hb
  by_cases h0 : s0 = 0
  · have hl : LR = ⟨3, -1, 0⟩ := by
      rw [← HLR.out]
      refine locF_lost hn fun i _ => ?_
      cases hh : hit (co s) i with
      | false => rfl
      | true => exact absurd (HE.out.1.trans h0) ((hit_iff _ _).1 hh).1
    subst hl
    have HD := Lib.hid (fun W => div_zero (.pointer (some ⟨fb, 0, none⟩)) (s1.toNat : Int) W)
    rw [h0] at c0
    have c0 : W.cell? ⟨b0, 0, none⟩ = some (.int .u8 0) := c0
    have c1 : W.cell? ⟨b0, 1, none⟩ = some (.int .u8 (s1.toNat : Int)) := c1
    clear h0
    gi_upto_region 3 with fail
    refine wpIn_wide.2 ?_
    go_quiet ((go_at_call 25; exact Calls.quiet_of (HD.out _)))
    have OW2 := Lib.hid (OW.out.drewN nq)
    have OZ2 := Lib.hid (show (W.drewN nq).heap.size = b0 + 1 + 1 ∧ b0 ≤ b0 + 1 + 1 from OZ.out)
    clear OW OZ c0 c1 cc
    have OW := OW2
    have OZ := OZ2
    clear OW2 OZ2
    gi_wp2_with fail
    refine ⟨trivial, ?_⟩
    refine (callsIn_wide.2 (rsLost_any _)).mono ?_
    rintro e W9 ⟨rfl, hbw⟩
    obtain ⟨g9, OW2, OZ2⟩ := own_call OW OZ hbw
    clear hbw OW OZ
    have OW := OW2
    have OZ := OZ2
    clear OW2 OZ2
    gi_wp2_with (first
      | (refine own_loadRow 0 22 (.tmp 3) rfl rfl rfl rfl _ Try.underlying22 rfl HI4.out OW ?_)
      | (refine own_storeSub 1 0 30 (.tmp 4) (.tmp 31) rfl rfl rfl rfl [.int .i64 3, .int .i64 (-1), .int .u8 0] rfl (Nat.le_of_ble_eq_true rfl) rfl (by kernel_rfl) #[.int .i64 3, .int .i64 (-1), .int .u8 0] rfl _ rfl OW OZ ?_; clear OW OZ; intro W OW OZ))
    refine leaves_own [] _ (Nat.le_of_eq HB0.out) (by simpa using OW.out) ?_
    intro W' hO
    exact ⟨_, results_ownRow hO 1 rfl rfl rfl Try.underlying30 rfl (by kernel_rfl), rfl, hO.done HB0⟩
  have hgd := gm_gd s1 h0
  have HD := Lib.hid (fun W h => fdiv_any fb s1 s0 h0 W h)
  obtain ⟨r, hr⟩ : ∃ r, gd s1 s0 = r := ⟨_, rfl⟩
  rw [hr] at hgd HD
  have HGD := Lib.hid hgd
  have HF0 := Lib.hid h0
  have hF : ∀ k, FieldAt (W.drewN k) fb := fun k => HFB.out _ _ (OW.out.drewN k)
  have HFF := Lib.hid hF
  have c0 : W.cell? ⟨b0, 0, none⟩ = some (.int .u8 (s0.toNat : Int)) := c0
  have c1 : W.cell? ⟨b0, 1, none⟩ = some (.int .u8 (s1.toNat : Int)) := c1
  clear hr hgd h0 hF
  by_cases hr0 : r = 0
  · have hl : LR = ⟨3, -1, 0⟩ := by
      rw [← HLR.out]
      exact locF_lost hn fun i _ => no_hit_ratio (r := r) (by rw [HE.out.1, HE.out.2.1]; exact HGD.out) (.inl hr0) i
    subst hl
    rw [hr0, show (((0 : UInt8).toNat : Nat) : Int) = 0 from rfl] at HD
    clear hr0
    gi_upto_region 3 with fail
    refine wpIn_wide.2 ?_
    go_quiet ((go_at_call 25; exact Calls.quiet_of (HD.out _ (HFF.out _))))
    have OW2 := Lib.hid (OW.out.drewN nq)
    have OZ2 := Lib.hid (show (W.drewN nq).heap.size = b0 + 1 + 1 ∧ b0 ≤ b0 + 1 + 1 from OZ.out)
    clear OW OZ c0 c1 cc
    have OW := OW2
    have OZ := OZ2
    clear OW2 OZ2
    gi_wp2_with fail
    refine ⟨trivial, ?_⟩
    refine (callsIn_wide.2 (rsLost_any _)).mono ?_
    rintro e W9 ⟨rfl, hbw⟩
    obtain ⟨g9, OW2, OZ2⟩ := own_call OW OZ hbw
    clear hbw OW OZ
    have OW := OW2
    have OZ := OZ2
    clear OW2 OZ2
    gi_wp2_with (first
      | (refine own_loadRow 0 22 (.tmp 3) rfl rfl rfl rfl _ Try.underlying22 rfl HI4.out OW ?_)
      | (refine own_storeSub 1 0 30 (.tmp 4) (.tmp 31) rfl rfl rfl rfl [.int .i64 3, .int .i64 (-1), .int .u8 0] rfl (Nat.le_of_ble_eq_true rfl) rfl (by kernel_rfl) #[.int .i64 3, .int .i64 (-1), .int .u8 0] rfl _ rfl OW OZ ?_; clear OW OZ; intro W OW OZ))
    refine leaves_own [] _ (Nat.le_of_eq HB0.out) (by simpa using OW.out) ?_
    intro W' hO
    exact ⟨_, results_ownRow hO 1 rfl rfl rfl Try.underlying30 rfl (by kernel_rfl), rfl, hO.done HB0⟩
  have q0 : ((r.toNat : Int) == 0) = false := beq_eq_false_iff_ne.2 (u8_ne0 hr0)
  gi_upto_region 3 with fail
  refine wpIn_wide.2 ?_
  go_quiet ((go_at_call 25; exact Calls.quiet_of (HD.out _ (HFF.out _))))
  have OW2 := Lib.hid (OW.out.drewN nq)
  have OZ2 := Lib.hid (show (W.drewN nq).heap.size = b0 + 1 + 1 ∧ b0 ≤ b0 + 1 + 1 from OZ.out)
  clear OW OZ c0 c1 cc
  have OW := OW2
  have OZ := OZ2
  clear OW2 OZ2
  gi_wp2
  gi_loopw [7] (fun i wr => ∃ k : Nat, 1 ≤ k ∧ k ≤ 4 ∧ i = .int .i64 k ∧ (2 < k → s2 = gm s1 r) ∧ (3 < k → s3 = gm s2 r) ∧ Own b0 w [cellsO b0 22 (rawV s), cellsO (b0 + 1) 30 #[.int .i64 0, .int .i64 0, .int .u8 0]] wr ∧ wr.heap.size = b0 + 1 + 1) (fun i _ => 4 - (intOf i).toNat)
  case atStart => exact ⟨1, by omega, by omega, rfl, fun h => absurd h (by omega), fun h => absurd h (by omega), OW.out, OZ.out.1⟩
  case round =>
    obtain ⟨k, hk1, hk4, rfl, hc2, hc3, hO, hz⟩ := hrel
    clear OW OZ
    have OW := Lib.hid hO
    have OZ := Lib.hid (show wr.heap.size = b0 + 1 + 1 ∧ b0 ≤ b0 + 1 + 1 from ⟨hz, by omega⟩)
    have H23 := Lib.hid (And.intro hc2 hc3)
    have HFF := Lib.hid (fun z => HFB.out _ _ (OW.out.drewN z))
    have cc := HCB.out _ _ OW.out
    have hb := OW.out.blk (k := 0) rfl
    have c0 := hb.cell 0
    rw [HG.out.1] at c0
    have c0 : wr.cell? ⟨b0, 0, none⟩ = some (.int .u8 (s0.toNat : Int)) := c0
    clear hO hz hc2 hc3
    by_cases h4 : k < 4
    · have hk3 : k = 1 ∨ k = 2 ∨ k = 3 := by omega
      rcases hk3 with rfl | rfl | rfl
      · have c1 := hb.cell 1
        rw [HG.out.2.1] at c1
        clear hb hk1 hk4 h4 H23
        have he : s1 = gm s0 r := by rw [gm_comm]; exact HGD.out.symm
        have q1 : ((s1.toNat : Int) != ((gm s0 r).toNat : Int)) = false := by rw [← he]; simp
        clear he
        have HM := Lib.hid (fun W h => fmul_any fb s0 r W h)
        gi_upto_region 9 with fail
        refine wpIn_wide.2 ?_
        go_quiet ((go_at_call 19; exact Calls.quiet_of (HM.out _ (HFF.out _))))
        have OW2 := Lib.hid (OW.out.drewN nq)
        have OZ2 := Lib.hid (show (wr.drewN nq).heap.size = b0 + 1 + 1 ∧ b0 ≤ b0 + 1 + 1 from OZ.out)
        clear OW OZ cc
        have OW := OW2
        have OZ := OZ2
        clear OW2 OZ2
        gi_wp2
        go_roundw
        case rel => exact ⟨2, by omega, by omega, rfl, fun h => absurd h (by omega), fun h => absurd h (by omega), OW.out, OZ.out.1⟩
        case measure => simp [intOf]
      · have c1 := hb.cell 1
        rw [HG.out.2.1] at c1
        have c2 := hb.cell 2
        rw [HG.out.2.2.1] at c2
        clear hb hk1 hk4 h4 H23 c0
        by_cases he : s2 = gm s1 r
        · have HE2 := Lib.hid he
          have q1 : ((s2.toNat : Int) != ((gm s1 r).toNat : Int)) = false := by rw [← he]; simp
          clear he
          have HM := Lib.hid (fun W h => fmul_any fb s1 r W h)
          gi_upto_region 9 with fail
          refine wpIn_wide.2 ?_
          go_quiet ((go_at_call 19; exact Calls.quiet_of (HM.out _ (HFF.out _))))
          have OW2 := Lib.hid (OW.out.drewN nq)
          have OZ2 := Lib.hid (show (wr.drewN nq).heap.size = b0 + 1 + 1 ∧ b0 ≤ b0 + 1 + 1 from OZ.out)
          clear OW OZ cc
          have OW := OW2
          have OZ := OZ2
          clear OW2 OZ2
          gi_wp2
          go_roundw
          case rel => exact ⟨3, by omega, by omega, rfl, fun _ => HE2.out, fun h => absurd h (by omega), OW.out, OZ.out.1⟩
          case measure => simp [intOf]
        · have hl : LR = ⟨3, -1, 0⟩ := by
            rw [← HLR.out]
            exact locF_lost hn fun i _ => no_hit_ratio (r := r) (by rw [HE.out.1, HE.out.2.1]; exact HGD.out) (.inr (.inl (by rw [HE.out.2.1, HE.out.2.2.1]; exact he))) i
          subst hl
          have q1 : ((s2.toNat : Int) != ((gm s1 r).toNat : Int)) = true := by rw [bne_iff_ne]; exact u8_neP he
          clear he
          have HM := Lib.hid (fun W h => fmul_any fb s1 r W h)
          gi_upto_region 9 with fail
          refine wpIn_wide.2 ?_
          go_quiet ((go_at_call 19; exact Calls.quiet_of (HM.out _ (HFF.out _))))
          have OW2 := Lib.hid (OW.out.drewN nq)
          have OZ2 := Lib.hid (show (wr.drewN nq).heap.size = b0 + 1 + 1 ∧ b0 ≤ b0 + 1 + 1 from OZ.out)
          clear OW OZ cc
          have OW := OW2
          have OZ := OZ2
          clear OW2 OZ2
          gi_wp2_with fail
          refine ⟨trivial, ?_⟩
          refine (callsIn_wide.2 (rsLost_any _)).mono ?_
          rintro e W9 ⟨rfl, hbw⟩
          obtain ⟨g9, OW2, OZ2⟩ := own_call OW OZ hbw
          clear hbw OW OZ
          have OW := OW2
          have OZ := OZ2
          clear OW2 OZ2
          gi_wp2_with (first
            | (refine own_loadRow 0 22 (.tmp 3) rfl rfl rfl rfl _ Try.underlying22 rfl HI4.out OW ?_)
            | (refine own_storeSub 1 0 30 (.tmp 4) (.tmp 50) rfl rfl rfl rfl [.int .i64 3, .int .i64 (-1), .int .u8 0] rfl (Nat.le_of_ble_eq_true rfl) rfl (by kernel_rfl) #[.int .i64 3, .int .i64 (-1), .int .u8 0] rfl _ rfl OW OZ ?_; clear OW OZ; intro W OW OZ))
          refine leaves_own [] _ (Nat.le_of_eq HB0.out) (by simpa using OW.out) ?_
          intro W' hO
          exact ⟨_, results_ownRow hO 1 rfl rfl rfl Try.underlying30 rfl (by kernel_rfl), rfl, hO.done HB0⟩
      · have c2 := hb.cell 2
        rw [HG.out.2.2.1] at c2
        have c3 := hb.cell 3
        rw [HG.out.2.2.2] at c3
        clear hb hk1 hk4 h4 c0
        by_cases he : s3 = gm s2 r
        · have HE2 := Lib.hid he
          have q1 : ((s3.toNat : Int) != ((gm s2 r).toNat : Int)) = false := by rw [← he]; simp
          clear he
          have HM := Lib.hid (fun W h => fmul_any fb s2 r W h)
          gi_upto_region 9 with fail
          refine wpIn_wide.2 ?_
          go_quiet ((go_at_call 19; exact Calls.quiet_of (HM.out _ (HFF.out _))))
          have OW2 := Lib.hid (OW.out.drewN nq)
          have OZ2 := Lib.hid (show (wr.drewN nq).heap.size = b0 + 1 + 1 ∧ b0 ≤ b0 + 1 + 1 from OZ.out)
          clear OW OZ cc
          have OW := OW2
          have OZ := OZ2
          clear OW2 OZ2
          gi_wp2
          go_roundw
          case rel => exact ⟨4, by omega, by omega, rfl, fun _ => H23.out.1 (by omega), fun _ => HE2.out, OW.out, OZ.out.1⟩
          case measure => simp [intOf]
        · have hl : LR = ⟨3, -1, 0⟩ := by
            rw [← HLR.out]
            exact locF_lost hn fun i _ => no_hit_ratio (r := r) (by rw [HE.out.1, HE.out.2.1]; exact HGD.out) (.inr (.inr (by rw [HE.out.2.2.1, HE.out.2.2.2]; exact he))) i
          subst hl
          have q1 : ((s3.toNat : Int) != ((gm s2 r).toNat : Int)) = true := by rw [bne_iff_ne]; exact u8_neP he
          clear he
          have HM := Lib.hid (fun W h => fmul_any fb s2 r W h)
          gi_upto_region 9 with fail
          refine wpIn_wide.2 ?_
          go_quiet ((go_at_call 19; exact Calls.quiet_of (HM.out _ (HFF.out _))))
          have OW2 := Lib.hid (OW.out.drewN nq)
          have OZ2 := Lib.hid (show (wr.drewN nq).heap.size = b0 + 1 + 1 ∧ b0 ≤ b0 + 1 + 1 from OZ.out)
          clear OW OZ cc
          have OW := OW2
          have OZ := OZ2
          clear OW2 OZ2
          gi_wp2_with fail
          refine ⟨trivial, ?_⟩
          refine (callsIn_wide.2 (rsLost_any _)).mono ?_
          rintro e W9 ⟨rfl, hbw⟩
          obtain ⟨g9, OW2, OZ2⟩ := own_call OW OZ hbw
          clear hbw OW OZ
          have OW := OW2
          have OZ := OZ2
          clear OW2 OZ2
          gi_wp2_with (first
            | (refine own_loadRow 0 22 (.tmp 3) rfl rfl rfl rfl _ Try.underlying22 rfl HI4.out OW ?_)
            | (refine own_storeSub 1 0 30 (.tmp 4) (.tmp 50) rfl rfl rfl rfl [.int .i64 3, .int .i64 (-1), .int .u8 0] rfl (Nat.le_of_ble_eq_true rfl) rfl (by kernel_rfl) #[.int .i64 3, .int .i64 (-1), .int .u8 0] rfl _ rfl OW OZ ?_; clear OW OZ; intro W OW OZ))
          refine leaves_own [] _ (Nat.le_of_eq HB0.out) (by simpa using OW.out) ?_
          intro W' hO
          exact ⟨_, results_ownRow hO 1 rfl rfl rfl Try.underlying30 rfl (by kernel_rfl), rfl, hO.done HB0⟩
    · obtain rfl : k = 4 := by omega
      have hhit : hit (co s) (gL r.toNat) = true := hit_ratio (by rw [HE.out.1]; exact HF0.out) (by rw [HE.out.1, HE.out.2.1]; exact HGD.out) hr0 (by rw [HE.out.2.1, HE.out.2.2.1]; exact H23.out.1 (by omega)) (by rw [HE.out.2.2.1, HE.out.2.2.2]; exact H23.out.2 (by omega))
      have hp := gL_lt255 hr0
      have HLG := Lib.hid (fun W h => flog_any fb r hr0 W h)
      obtain ⟨p, hpp⟩ : ∃ p, gL r.toNat = p := ⟨_, rfl⟩
      rw [hpp] at hhit hp HLG
      clear hb hk1 hk4 h4 H23 hpp q0 hr0
      have jp0 : (0 : Int) ≤ (p : Int) := by omega
      by_cases h39 : 39 ≤ p
      · have hl : LR = ⟨3, -1, 0⟩ := by
          rw [← HLR.out]
          refine locF_lost hn fun i hi => ?_
          cases hh : hit (co s) i with
          | false => rfl
          | true => have := hit_uniq hp (by omega) hhit hh; omega
        subst hl
        have jp : (39 : Int) ≤ (p : Int) := by omega
        clear hhit
        gi_wp2_with fail
        refine ⟨trivial, ?_⟩
        refine (callsIn_wide.2 (HLG.out _ (HFB.out _ _ OW.out))).mono ?_
        rintro e W8 ⟨rfl, qz, hq⟩
        have OW2 := Lib.hid (OW.out.drewN qz)
        have OZ2 := Lib.hid (show W8.heap.size = b0 + 1 + 1 ∧ b0 ≤ b0 + 1 + 1 by rw [hq]; exact OZ.out)
        have c0' : W8.cell? ⟨b0, 0, none⟩ = some (.int .u8 (s0.toNat : Int)) := by rw [hq]; exact c0
        rw [← hq] at OW2
        clear OW OZ cc c0 hq
        have OW := OW2
        have OZ := OZ2
        clear OW2 OZ2
        gi_wp2_with fail
        refine ⟨trivial, ?_⟩
        refine (callsIn_wide.2 (rsLost_any _)).mono ?_
        rintro e W9 ⟨rfl, hbw⟩
        obtain ⟨g9, OW2, OZ2⟩ := own_call OW OZ hbw
        clear hbw OW OZ
        have OW := OW2
        have OZ := OZ2
        clear OW2 OZ2
        gi_wp2_with (first
          | (refine own_loadRow 0 22 (.tmp 3) rfl rfl rfl rfl _ Try.underlying22 rfl HI4.out OW ?_)
          | (refine own_storeSub 1 0 30 (.tmp 4) (.tmp 67) rfl rfl rfl rfl [.int .i64 3, .int .i64 (-1), .int .u8 0] rfl (Nat.le_of_ble_eq_true rfl) rfl (by kernel_rfl) #[.int .i64 3, .int .i64 (-1), .int .u8 0] rfl _ rfl OW OZ ?_; clear OW OZ; intro W OW OZ))
        refine leaves_own [] _ (Nat.le_of_eq HB0.out) (by simpa using OW.out) ?_
        intro W' hO
        exact ⟨_, results_ownRow hO 1 rfl rfl rfl Try.underlying30 rfl (by kernel_rfl), rfl, hO.done HB0⟩
      · by_cases h36 : 36 ≤ p
        · have hl : LR = ⟨2, p, s0⟩ := by rw [← HLR.out, ← HE.out.1]; exact locF_hi (by omega) (by omega) hhit
          subst hl
          have jp : (p : Int) < 39 := by omega
          have jq : (36 : Int) ≤ (p : Int) := by omega
          clear hhit
          gi_wp2_with fail
          refine ⟨trivial, ?_⟩
          refine (callsIn_wide.2 (HLG.out _ (HFB.out _ _ OW.out))).mono ?_
          rintro e W8 ⟨rfl, qz, hq⟩
          have OW2 := Lib.hid (OW.out.drewN qz)
          have OZ2 := Lib.hid (show W8.heap.size = b0 + 1 + 1 ∧ b0 ≤ b0 + 1 + 1 by rw [hq]; exact OZ.out)
          have c0' : W8.cell? ⟨b0, 0, none⟩ = some (.int .u8 (s0.toNat : Int)) := by rw [hq]; exact c0
          rw [← hq] at OW2
          clear OW OZ cc c0 hq
          have OW := OW2
          have OZ := OZ2
          clear OW2 OZ2
          gi_wp2_with (refine own_storeSub 1 0 30 (.tmp 4) (.tmp 74) rfl rfl rfl rfl [.int .i64 2, .int .i64 (p : Int), .int .u8 (s0.toNat : Int)] rfl (Nat.le_of_ble_eq_true rfl) rfl (by kernel_rfl) #[.int .i64 2, .int .i64 (p : Int), .int .u8 (s0.toNat : Int)] rfl _ rfl OW OZ ?_; clear OW OZ; intro W OW OZ)
          refine leaves_own [] _ (Nat.le_of_eq HB0.out) (by simpa using OW.out) ?_
          intro W' hO
          exact ⟨_, results_ownRow hO 1 rfl rfl rfl Try.underlying30 rfl (by kernel_rfl), rfl, hO.done HB0⟩
        · have hl : LR = ⟨1, p, s0⟩ := by rw [← HLR.out, ← HE.out.1]; exact locF_lo (by omega) hhit
          subst hl
          have jp : (p : Int) < 39 := by omega
          have jq : (p : Int) < 36 := by omega
          clear hhit
          gi_wp2_with fail
          refine ⟨trivial, ?_⟩
          refine (callsIn_wide.2 (HLG.out _ (HFB.out _ _ OW.out))).mono ?_
          rintro e W8 ⟨rfl, qz, hq⟩
          have OW2 := Lib.hid (OW.out.drewN qz)
          have OZ2 := Lib.hid (show W8.heap.size = b0 + 1 + 1 ∧ b0 ≤ b0 + 1 + 1 by rw [hq]; exact OZ.out)
          have c0' : W8.cell? ⟨b0, 0, none⟩ = some (.int .u8 (s0.toNat : Int)) := by rw [hq]; exact c0
          rw [← hq] at OW2
          clear OW OZ cc c0 hq
          have OW := OW2
          have OZ := OZ2
          clear OW2 OZ2
          gi_wp2_with (refine own_storeSub 1 0 30 (.tmp 4) (.tmp 78) rfl rfl rfl rfl [.int .i64 1, .int .i64 (p : Int), .int .u8 (s0.toNat : Int)] rfl (Nat.le_of_ble_eq_true rfl) rfl (by kernel_rfl) #[.int .i64 1, .int .i64 (p : Int), .int .u8 (s0.toNat : Int)] rfl _ rfl OW OZ ?_; clear OW OZ; intro W OW OZ)
          refine leaves_own [] _ (Nat.le_of_eq HB0.out) (by simpa using OW.out) ?_
          intro W' hO
          exact ⟨_, results_ownRow hO 1 rfl rfl rfl Try.underlying30 rfl (by kernel_rfl), rfl, hO.done HB0⟩
end Go.Proofs.Ytdgflbbffimpkaa
