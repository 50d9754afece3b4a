/- Several texts in one: RsD RsE. -/
import Derived.Test.YtkeheickaogpiaaRsQ
import Derived.Sort.CutIn
import Derived.Deep.QuietTactic
import Derived.BigQuiet
import Derived.Laws.Cover3
namespace Go.Proofs.Ytkeheickaogpiaa
open Go.RowKit Go.Shelf
attribute [local go_sem] Oper.semAt_some
set_option linter.unusedVariables false
set_option linter.unusedSimpArgs false


set_option maxRecDepth 100000 in
set_option maxHeartbeats 1000000 in
theorem rsLost_any  (w : World) : Calls Try.prog 98 #[] w fun e w' => e = .returned (.agg #[.int .i64 3, .int .i64 (-1), .int .u8 0]) ∧ Below w.heap.size w w' := by
  obtain ⟨b0, hb0⟩ : ∃ b0, w.heap.size = b0 := ⟨_, rfl⟩
  have HB0 := Lib.hid hb0
  have OW := Lib.hid (Own.start b0 w)
  have OZ := Lib.hid (And.intro hb0 (Nat.le_refl b0))
  clear hb0
  refine (callsIn_wide (n := 6)).1 ?_
  refine callsIn_of_wp_marks Try.func98 rfl trivial ?_ rfl
  simp only [Try.ntmps98, List.size_toArray, List.length_cons, List.length_nil, Nat.reduceAdd, Nat.reduceSub, Array.replicate_succ, Array.replicate_zero, List.push_toArray, List.append_toArray, List.nil_append, List.cons_append]
  gi_wp2_with (first | (refine own_allocV 0 146 rfl rfl rfl #[.int .i64 0, .int .i64 0, .int .u8 0] (fun _ => by kernel_rfl) OW OZ ?_; clear OW OZ; intro W g1 OW OZ) | (refine own_valV 1 rfl rfl rfl (.agg #[.int .i64 3, .int .i64 (-1), .int .u8 0]) (run_buildO rfl (vs := #[(0, .int .i64 3), (1, .int .i64 (-1))]) rfl _ (by kernel_rfl)) ?_) | (refine own_storeSub 0 0 146 (.tmp 0) (.tmp 1) rfl rfl rfl rfl [.int .i64 3, .int .i64 (-1), .int .u8 0] rfl (Nat.le_of_ble_eq_true rfl) rfl (by kernel_rfl) #[.int .i64 3, .int .i64 (-1), .int .u8 0] rfl _ rfl OW OZ ?_; clear OW OZ; intro W OW OZ))
  refine leaves_own [] _ (Nat.le_of_eq HB0.out) (by simpa using OW.out) ?_
  intro W' hO
  exact ⟨.agg #[.int .i64 3, .int .i64 (-1), .int .u8 0], results_ownRow hO 0 rfl rfl rfl Try.underlying146 rfl (by kernel_rfl), rfl, hO.done HB0⟩

/-- A verdict's cells. -/
def vdV (x : Vd) : Array Value := #[.int .i64 (x.kind : Int), .int .i64 x.place, .int .u8 (x.val.toNat : Int)]
/-- A quotient. -/
def gd (x y : UInt8) : UInt8 := UInt8.ofNat (gdivN x.toNat y.toNat)
theorem gd_toNat (x y : UInt8) : (gd x y).toNat = gdivN x.toNat y.toNat := by unfold gd; rw [UInt8.toNat_ofNat']; exact Nat.mod_eq_of_lt (gdivN_lt _ _)
theorem gm_gd (x : UInt8) {y : UInt8} (hy : y ≠ 0) : gm (gd x y) y = x := by
  apply UInt8.toNat_inj.1
  rw [gm_toNat, gd_toNat, gdivN_mul _ _ x.toNat_lt y.toNat_lt (fun e => hy (UInt8.toNat_inj.1 e))]
theorem fdiv_any (b : Nat) (x y : UInt8) (hy : y ≠ 0) (w : World) (hF : FieldAt w b) :
    Calls Try.prog 92 #[.pointer (some ⟨b, 0, none⟩), .int .u8 (x.toNat : Int), .int .u8 (y.toNat : Int)] w fun e w' => e = .returned (.tuple #[.int .u8 ((gd x y).toNat : Int), .int .i64 0]) ∧ ∃ k, w' = w.drewN k := by
  rw [gd_toNat]
  exact div_any b _ _ x.toNat y.toNat rfl rfl x.toNat_lt y.toNat_lt (fun e => hy (UInt8.toNat_inj.1 e)) w hF
theorem flog_any (b : Nat) (x : UInt8) (hx : x ≠ 0) (w : World) (hF : FieldAt w b) :
    Calls Try.prog 99 #[.pointer (some ⟨b, 0, none⟩), .int .u8 (x.toNat : Int)] w fun e w' => e = .returned (.tuple #[.int .i64 (gL x.toNat : Int), .int .i64 0]) ∧ ∃ k, w' = w.drewN k :=
  log_any b _ x.toNat rfl x.toNat_lt (fun e => hx (UInt8.toNat_inj.1 e)) w hF

set_option maxRecDepth 100000 in
set_option maxHeartbeats 1000000 in
theorem locate_any (cb fb : Nat) (s : List UInt8) (hs : s.length = 4) (w : World) (hC : CodeAt w cb fb) :
    Calls Try.prog 95 #[.pointer (some ⟨cb, 0, none⟩), .agg (rawV s)] w fun e w' => e = .returned (.agg (vdV (locF (co s)))) ∧ Below w.heap.size w w' := by
  obtain ⟨A5, c5, hcb, hcf, _, _⟩ := hC
  have HI4 := Lib.hid (arJ4 hs)
  have HS := Lib.hid hs
  have G := fun i (hi : i < 4) => (show (rawV s)[i]? = some (vU (co s i)) from rawV_get s (by omega))
  obtain ⟨s0, e0⟩ : ∃ x, co s 0 = x := ⟨_, rfl⟩
  obtain ⟨s1, e1⟩ : ∃ x, co s 1 = x := ⟨_, rfl⟩
  obtain ⟨s2, e2⟩ : ∃ x, co s 2 = x := ⟨_, rfl⟩
  obtain ⟨s3, e3⟩ : ∃ x, co s 3 = x := ⟨_, rfl⟩
  have G0 := G 0 (by omega)
  have G1 := G 1 (by omega)
  have G2 := G 2 (by omega)
  have G3 := G 3 (by omega)
  rw [e0] at G0
  rw [e1] at G1
  rw [e2] at G2
  rw [e3] at G3
  have HG := Lib.hid (And.intro G0 (And.intro G1 (And.intro G2 G3)))
  have HE := Lib.hid (And.intro e0 (And.intro e1 (And.intro e2 e3)))
  have hcell0 : w.cell? ⟨cb, 0, none⟩ = some (.pointer (some ⟨fb, 0, none⟩)) := hcb.cell 0
  have HCF := Lib.hid (And.intro hcb hcf)
  have HEQ := Lib.hid (fun x y W => eq_ar4 s (List.replicate 4 0) hs (List.length_replicate) x y W)
  have HNUL := Lib.hid (show decide (s = List.replicate 4 0) = decide (nul (co s)) by
    rw [decide_eq_decide]
    constructor
    · rintro rfl
      exact ⟨rfl, rfl, rfl, rfl⟩
    · rintro ⟨h0, h1, h2, h3⟩
      refine list_ext (by rw [hs, List.length_replicate]) fun i hi => ?_
      rw [hs] at hi
      have : i = 0 ∨ i = 1 ∨ i = 2 ∨ i = 3 := by omega
      rcases this with rfl | rfl | rfl | rfl
      · exact h0
      · exact h1
      · exact h2
      · exact h3)
  obtain ⟨LR, hLR⟩ : ∃ LR, locF (co s) = LR := ⟨_, rfl⟩
  have HLR := Lib.hid hLR
  rw [hLR]
  obtain ⟨b0, hb0⟩ : ∃ b0, w.heap.size = b0 := ⟨_, rfl⟩
  have HB0 := Lib.hid hb0
  have OW := Lib.hid (Own.start b0 w)
  have OZ := Lib.hid (And.intro hb0 (Nat.le_refl b0))
  clear hb0
  clear G G0 G1 G2 G3 e0 e1 e2 e3 hcb hcf hs hLR hcell0
  by_cases hn : nul (co s)
  · have hl : LR = ⟨0, -1, 0⟩ := by rw [← HLR.out]; exact locF_nul hn
    subst hl
    rw [HNUL.out, decide_eq_true hn] at HEQ
    refine (callsIn_wide (n := 6)).1 ?_
    refine callsIn_of_wp_marks Try.func95 rfl trivial ?_ rfl
    simp only [Try.ntmps95, List.size_toArray, List.length_cons, List.length_nil, Nat.reduceAdd, Nat.reduceSub, Array.replicate_succ, Array.replicate_zero, List.push_toArray, List.append_toArray, List.nil_append, List.cons_append]
    gi_wp2_with (first
      | (refine own_box 68 (.tmp 1) rfl rfl (.agg (rawV s)) rfl (rawV s) rfl OW OZ ?_; clear OW OZ; intro W OW OZ)
      | (refine own_alloc 146 rfl rfl #[.int .i64 0, .int .i64 0, .int .u8 0] (fun _ => by kernel_rfl) OW OZ ?_; clear OW OZ; intro W OW OZ)
      | (refine own_loadRow 0 68 (.tmp 3) rfl rfl rfl rfl _ Try.underlying68 rfl HI4.out OW ?_)
      | (refine own_valV 10 rfl rfl rfl (.agg (rawV (List.replicate 4 0))) (run_buildO rfl (vs := #[]) rfl _ (by kernel_rfl)) ?_)
      | (refine own_valV 11 rfl rfl rfl _ (run_binO (vx := .agg (rawV s)) (vy := .agg (rawV (List.replicate 4 0))) rfl rfl rfl (HEQ.out _ _ _)) ?_)
      | (refine own_storeSub 1 0 146 (.tmp 4) (.tmp 12) rfl rfl rfl rfl [.int .i64 0, .int .i64 (-1), .int .u8 0] rfl (Nat.le_of_ble_eq_true rfl) rfl (by kernel_rfl) #[.int .i64 0, .int .i64 (-1), .int .u8 0] rfl _ rfl OW OZ ?_; clear OW OZ; intro W OW OZ))
    refine leaves_own [] _ (Nat.le_of_eq HB0.out) (by simpa using OW.out) ?_
    intro W' hO
    exact ⟨_, results_ownRow hO 1 rfl rfl rfl Try.underlying146 rfl (by kernel_rfl), rfl, hO.done HB0⟩
  rw [HNUL.out, decide_eq_false hn] at HEQ
  refine (callsIn_wide (n := 6)).1 ?_
  refine callsIn_of_wp_marks Try.func95 rfl trivial ?_ rfl
  simp only [Try.ntmps95, List.size_toArray, List.length_cons, List.length_nil, Nat.reduceAdd, Nat.reduceSub, Array.replicate_succ, Array.replicate_zero, List.push_toArray, List.append_toArray, List.nil_append, List.cons_append]
  gi_wp2_with (first
    | (refine own_box 68 (.tmp 1) rfl rfl (.agg (rawV s)) rfl (rawV s) rfl OW OZ ?_; clear OW OZ; intro W OW OZ)
    | (refine own_alloc 146 rfl rfl #[.int .i64 0, .int .i64 0, .int .u8 0] (fun _ => by kernel_rfl) OW OZ ?_; clear OW OZ; intro W OW OZ)
    | (refine own_loadRow 0 68 (.tmp 3) rfl rfl rfl rfl _ Try.underlying68 rfl HI4.out OW ?_)
    | (refine own_valV 10 rfl rfl rfl (.agg (rawV (List.replicate 4 0))) (run_buildO rfl (vs := #[]) rfl _ (by kernel_rfl)) ?_)
    | (refine own_valV 11 rfl rfl rfl _ (run_binO (vx := .agg (rawV s)) (vy := .agg (rawV (List.replicate 4 0))) rfl rfl rfl (HEQ.out _ _ _)) ?_)
    | (refine own_storeSub 1 0 146 (.tmp 4) (.tmp 12) rfl rfl rfl rfl [.int .i64 0, .int .i64 (-1), .int .u8 0] rfl (Nat.le_of_ble_eq_true rfl) rfl (by kernel_rfl) #[.int .i64 0, .int .i64 (-1), .int .u8 0] rfl _ rfl OW OZ ?_; clear OW OZ; intro W OW OZ))
  have HFB := Lib.hid (fun (L : Objs) (V : World) (h : Own b0 w L V) => (show FieldAt V fb from h.field HB0.out HCF.out.2))
  have HCB := Lib.hid (fun (L : Objs) (V : World) (h : Own b0 w L V) => (show V.cell? ⟨cb, 0, none⟩ = some (.pointer (some ⟨fb, 0, none⟩)) from ((HCF.out.1.below (h.below (Nat.le_of_eq HB0.out.symm)) (by rw [← HB0.out]; exact HCF.out.1.lt)).cell 0)))
  have hb := OW.out.blk (k := 0) rfl
  have c0 := hb.cell 0
  have c1 := hb.cell 1
  rw [HG.out.1] at c0
  rw [HG.out.2.1] at c1
  have cc := HCB.out _ _ OW.out
  clear hb
  by_cases h0 : s0 = 0
  · have hl : LR = ⟨3, -1, 0⟩ := by
      rw [← HLR.out]
      refine locF_lost hn fun i _ => ?_
      cases hh : hit (co s) i with
      | false => rfl
      | true => exact absurd (HE.out.1.trans h0) ((hit_iff _ _).1 hh).1
    subst hl
    have HD := Lib.hid (fun W => div_zero (.pointer (some ⟨fb, 0, none⟩)) (s1.toNat : Int) W)
    rw [h0] at c0
    have c0 : W.cell? ⟨b0, 0, none⟩ = some (.int .u8 0) := c0
    have c1 : W.cell? ⟨b0, 1, none⟩ = some (.int .u8 (s1.toNat : Int)) := c1
    clear h0
    gi_upto_region 3 with fail
    refine wpIn_wide.2 ?_
    go_quiet ((go_at_call 92; exact Calls.quiet_of (HD.out _)))
    have OW2 := Lib.hid (OW.out.drewN nq)
    have OZ2 := Lib.hid (show (W.drewN nq).heap.size = b0 + 1 + 1 ∧ b0 ≤ b0 + 1 + 1 from OZ.out)
    clear OW OZ c0 c1 cc
    have OW := OW2
    have OZ := OZ2
    clear OW2 OZ2
    gi_wp2_with fail
    refine ⟨trivial, ?_⟩
    refine (callsIn_wide.2 (rsLost_any _)).mono ?_
    rintro e W9 ⟨rfl, hbw⟩
    obtain ⟨g9, OW2, OZ2⟩ := own_call OW OZ hbw
    clear hbw OW OZ
    have OW := OW2
    have OZ := OZ2
    clear OW2 OZ2
    gi_wp2_with (first
      | (refine own_loadRow 0 68 (.tmp 3) rfl rfl rfl rfl _ Try.underlying68 rfl HI4.out OW ?_)
      | (refine own_storeSub 1 0 146 (.tmp 4) (.tmp 31) rfl rfl rfl rfl [.int .i64 3, .int .i64 (-1), .int .u8 0] rfl (Nat.le_of_ble_eq_true rfl) rfl (by kernel_rfl) #[.int .i64 3, .int .i64 (-1), .int .u8 0] rfl _ rfl OW OZ ?_; clear OW OZ; intro W OW OZ))
    refine leaves_own [] _ (Nat.le_of_eq HB0.out) (by simpa using OW.out) ?_
    intro W' hO
    exact ⟨_, results_ownRow hO 1 rfl rfl rfl Try.underlying146 rfl (by kernel_rfl), rfl, hO.done HB0⟩
  have hgd := gm_gd s1 h0
  have HD := Lib.hid (fun W h => fdiv_any fb s1 s0 h0 W h)
  obtain ⟨r, hr⟩ : ∃ r, gd s1 s0 = r := ⟨_, rfl⟩
  rw [hr] at hgd HD
  have HGD := Lib.hid hgd
  have HF0 := Lib.hid h0
  have hF : ∀ k, FieldAt (W.drewN k) fb := fun k => HFB.out _ _ (OW.out.drewN k)
  have HFF := Lib.hid hF
  have c0 : W.cell? ⟨b0, 0, none⟩ = some (.int .u8 (s0.toNat : Int)) := c0
  have c1 : W.cell? ⟨b0, 1, none⟩ = some (.int .u8 (s1.toNat : Int)) := c1
  clear hr hgd h0 hF
  by_cases hr0 : r = 0
  · have hl : LR = ⟨3, -1, 0⟩ := by
      rw [← HLR.out]
      exact locF_lost hn fun i _ => no_hit_ratio (r := r) (by rw [HE.out.1, HE.out.2.1]; exact HGD.out) (.inl hr0) i
    subst hl
    rw [hr0, show (((0 : UInt8).toNat : Nat) : Int) = 0 from rfl] at HD
    clear hr0
    gi_upto_region 3 with fail
    refine wpIn_wide.2 ?_
    go_quiet ((go_at_call 92; exact Calls.quiet_of (HD.out _ (HFF.out _))))
    have OW2 := Lib.hid (OW.out.drewN nq)
    have OZ2 := Lib.hid (show (W.drewN nq).heap.size = b0 + 1 + 1 ∧ b0 ≤ b0 + 1 + 1 from OZ.out)
    clear OW OZ c0 c1 cc
    have OW := OW2
    have OZ := OZ2
    clear OW2 OZ2
    gi_wp2_with fail
    refine ⟨trivial, ?_⟩
    refine (callsIn_wide.2 (rsLost_any _)).mono ?_
    rintro e W9 ⟨rfl, hbw⟩
    obtain ⟨g9, OW2, OZ2⟩ := own_call OW OZ hbw
    clear hbw OW OZ
    have OW := OW2
    have OZ := OZ2
    clear OW2 OZ2
    gi_wp2_with (first
      | (refine own_loadRow 0 68 (.tmp 3) rfl rfl rfl rfl _ Try.underlying68 rfl HI4.out OW ?_)
      | (refine own_storeSub 1 0 146 (.tmp 4) (.tmp 31) rfl rfl rfl rfl [.int .i64 3, .int .i64 (-1), .int .u8 0] rfl (Nat.le_of_ble_eq_true rfl) rfl (by kernel_rfl) #[.int .i64 3, .int .i64 (-1), .int .u8 0] rfl _ rfl OW OZ ?_; clear OW OZ; intro W OW OZ))
    refine leaves_own [] _ (Nat.le_of_eq HB0.out) (by simpa using OW.out) ?_
    intro W' hO
    exact ⟨_, results_ownRow hO 1 rfl rfl rfl Try.underlying146 rfl (by kernel_rfl), rfl, hO.done HB0⟩
  have q0 : ((r.toNat : Int) == 0) = false := beq_eq_false_iff_ne.2 (u8_ne0 hr0)
  gi_upto_region 3 with fail
  refine wpIn_wide.2 ?_
  go_quiet ((go_at_call 92; exact Calls.quiet_of (HD.out _ (HFF.out _))))
  have OW2 := Lib.hid (OW.out.drewN nq)
  have OZ2 := Lib.hid (show (W.drewN nq).heap.size = b0 + 1 + 1 ∧ b0 ≤ b0 + 1 + 1 from OZ.out)
  clear OW OZ c0 c1 cc
  have OW := OW2
  have OZ := OZ2
  clear OW2 OZ2
  gi_wp2
  gi_loopw [7] (fun i wr => ∃ k : Nat, 1 ≤ k ∧ k ≤ 4 ∧ i = .int .i64 k ∧ (2 < k → s2 = gm s1 r) ∧ (3 < k → s3 = gm s2 r) ∧ Own b0 w [cellsO b0 68 (rawV s), cellsO (b0 + 1) 146 #[.int .i64 0, .int .i64 0, .int .u8 0]] wr ∧ wr.heap.size = b0 + 1 + 1) (fun i _ => 4 - (intOf i).toNat)
  case atStart => exact ⟨1, by omega, by omega, rfl, fun h => absurd h (by omega), fun h => absurd h (by omega), OW.out, OZ.out.1⟩
  case round =>
    obtain ⟨k, hk1, hk4, rfl, hc2, hc3, hO, hz⟩ := hrel
    clear OW OZ
    have OW := Lib.hid hO
    have OZ := Lib.hid (show wr.heap.size = b0 + 1 + 1 ∧ b0 ≤ b0 + 1 + 1 from ⟨hz, by omega⟩)
    have H23 := Lib.hid (And.intro hc2 hc3)
    have HFF := Lib.hid (fun z => HFB.out _ _ (OW.out.drewN z))
    have cc := HCB.out _ _ OW.out
    have hb := OW.out.blk (k := 0) rfl
    have c0 := hb.cell 0
    rw [HG.out.1] at c0
    have c0 : wr.cell? ⟨b0, 0, none⟩ = some (.int .u8 (s0.toNat : Int)) := c0
    clear hO hz hc2 hc3
    by_cases h4 : k < 4
    · have hk3 : k = 1 ∨ k = 2 ∨ k = 3 := by omega
      rcases hk3 with rfl | rfl | rfl
      · have c1 := hb.cell 1
        rw [HG.out.2.1] at c1
        clear hb hk1 hk4 h4 H23
        have he : s1 = gm s0 r := by rw [gm_comm]; exact HGD.out.symm
        have q1 : ((s1.toNat : Int) != ((gm s0 r).toNat : Int)) = false := by rw [← he]; simp
        clear he
        have HM := Lib.hid (fun W h => fmul_any fb s0 r W h)
        gi_upto_region 9 with fail
        refine wpIn_wide.2 ?_
        go_quiet ((go_at_call 80; exact Calls.quiet_of (HM.out _ (HFF.out _))))
        have OW2 := Lib.hid (OW.out.drewN nq)
        have OZ2 := Lib.hid (show (wr.drewN nq).heap.size = b0 + 1 + 1 ∧ b0 ≤ b0 + 1 + 1 from OZ.out)
        clear OW OZ cc
        have OW := OW2
        have OZ := OZ2
        clear OW2 OZ2
        gi_wp2
        go_roundw
        case rel => exact ⟨2, by omega, by omega, rfl, fun h => absurd h (by omega), fun h => absurd h (by omega), OW.out, OZ.out.1⟩
        case measure => simp [intOf]
      · have c1 := hb.cell 1
        rw [HG.out.2.1] at c1
        have c2 := hb.cell 2
        rw [HG.out.2.2.1] at c2
        clear hb hk1 hk4 h4 H23 c0
        by_cases he : s2 = gm s1 r
        · have HE2 := Lib.hid he
          have q1 : ((s2.toNat : Int) != ((gm s1 r).toNat : Int)) = false := by rw [← he]; simp
          clear he
          have HM := Lib.hid (fun W h => fmul_any fb s1 r W h)
          gi_upto_region 9 with fail
          refine wpIn_wide.2 ?_
          go_quiet ((go_at_call 80; exact Calls.quiet_of (HM.out _ (HFF.out _))))
          have OW2 := Lib.hid (OW.out.drewN nq)
          have OZ2 := Lib.hid (show (wr.drewN nq).heap.size = b0 + 1 + 1 ∧ b0 ≤ b0 + 1 + 1 from OZ.out)
          clear OW OZ cc
          have OW := OW2
          have OZ := OZ2
          clear OW2 OZ2
          gi_wp2
          go_roundw
          case rel => exact ⟨3, by omega, by omega, rfl, fun _ => HE2.out, fun h => absurd h (by omega), OW.out, OZ.out.1⟩
          case measure => simp [intOf]
        · have hl : LR = ⟨3, -1, 0⟩ := by
            rw [← HLR.out]
            exact locF_lost hn fun i _ => no_hit_ratio (r := r) (by rw [HE.out.1, HE.out.2.1]; exact HGD.out) (.inr (.inl (by rw [HE.out.2.1, HE.out.2.2.1]; exact he))) i
          subst hl
          have q1 : ((s2.toNat : Int) != ((gm s1 r).toNat : Int)) = true := by rw [bne_iff_ne]; exact u8_neP he
          clear he
          have HM := Lib.hid (fun W h => fmul_any fb s1 r W h)
          gi_upto_region 9 with fail
          refine wpIn_wide.2 ?_
          go_quiet ((go_at_call 80; exact Calls.quiet_of (HM.out _ (HFF.out _))))
          have OW2 := Lib.hid (OW.out.drewN nq)
          have OZ2 := Lib.hid (show (wr.drewN nq).heap.size = b0 + 1 + 1 ∧ b0 ≤ b0 + 1 + 1 from OZ.out)
          clear OW OZ cc
          have OW := OW2
          have OZ := OZ2
          clear OW2 OZ2
          gi_wp2_with fail
          refine ⟨trivial, ?_⟩
          refine (callsIn_wide.2 (rsLost_any _)).mono ?_
          rintro e W9 ⟨rfl, hbw⟩
          obtain ⟨g9, OW2, OZ2⟩ := own_call OW OZ hbw
          clear hbw OW OZ
          have OW := OW2
          have OZ := OZ2
          clear OW2 OZ2
          gi_wp2_with (first
            | (refine own_loadRow 0 68 (.tmp 3) rfl rfl rfl rfl _ Try.underlying68 rfl HI4.out OW ?_)
            | (refine own_storeSub 1 0 146 (.tmp 4) (.tmp 50) rfl rfl rfl rfl [.int .i64 3, .int .i64 (-1), .int .u8 0] rfl (Nat.le_of_ble_eq_true rfl) rfl (by kernel_rfl) #[.int .i64 3, .int .i64 (-1), .int .u8 0] rfl _ rfl OW OZ ?_; clear OW OZ; intro W OW OZ))
          refine leaves_own [] _ (Nat.le_of_eq HB0.out) (by simpa using OW.out) ?_
          intro W' hO
          exact ⟨_, results_ownRow hO 1 rfl rfl rfl Try.underlying146 rfl (by kernel_rfl), rfl, hO.done HB0⟩
      · have c2 := hb.cell 2
        rw [HG.out.2.2.1] at c2
        have c3 := hb.cell 3
        rw [HG.out.2.2.2] at c3
        clear hb hk1 hk4 h4 c0
        by_cases he : s3 = gm s2 r
        · have HE2 := Lib.hid he
          have q1 : ((s3.toNat : Int) != ((gm s2 r).toNat : Int)) = false := by rw [← he]; simp
          clear he
          have HM := Lib.hid (fun W h => fmul_any fb s2 r W h)
          gi_upto_region 9 with fail
          refine wpIn_wide.2 ?_
          go_quiet ((go_at_call 80; exact Calls.quiet_of (HM.out _ (HFF.out _))))
          have OW2 := Lib.hid (OW.out.drewN nq)
          have OZ2 := Lib.hid (show (wr.drewN nq).heap.size = b0 + 1 + 1 ∧ b0 ≤ b0 + 1 + 1 from OZ.out)
          clear OW OZ cc
          have OW := OW2
          have OZ := OZ2
          clear OW2 OZ2
          gi_wp2
          go_roundw
          case rel => exact ⟨4, by omega, by omega, rfl, fun _ => H23.out.1 (by omega), fun _ => HE2.out, OW.out, OZ.out.1⟩
          case measure => simp [intOf]
        · have hl : LR = ⟨3, -1, 0⟩ := by
            rw [← HLR.out]
            exact locF_lost hn fun i _ => no_hit_ratio (r := r) (by rw [HE.out.1, HE.out.2.1]; exact HGD.out) (.inr (.inr (by rw [HE.out.2.2.1, HE.out.2.2.2]; exact he))) i
          subst hl
          have q1 : ((s3.toNat : Int) != ((gm s2 r).toNat : Int)) = true := by rw [bne_iff_ne]; exact u8_neP he
          clear he
          have HM := Lib.hid (fun W h => fmul_any fb s2 r W h)
          gi_upto_region 9 with fail
          refine wpIn_wide.2 ?_
          go_quiet ((go_at_call 80; exact Calls.quiet_of (HM.out _ (HFF.out _))))
          have OW2 := Lib.hid (OW.out.drewN nq)
          have OZ2 := Lib.hid (show (wr.drewN nq).heap.size = b0 + 1 + 1 ∧ b0 ≤ b0 + 1 + 1 from OZ.out)
          clear OW OZ cc
          have OW := OW2
          have OZ := OZ2
          clear OW2 OZ2
          gi_wp2_with fail
          refine ⟨trivial, ?_⟩
          refine (callsIn_wide.2 (rsLost_any _)).mono ?_
          rintro e W9 ⟨rfl, hbw⟩
          obtain ⟨g9, OW2, OZ2⟩ := own_call OW OZ hbw
          clear hbw OW OZ
          have OW := OW2
          have OZ := OZ2
          clear OW2 OZ2
          gi_wp2_with (first
            | (refine own_loadRow 0 68 (.tmp 3) rfl rfl rfl rfl _ Try.underlying68 rfl HI4.out OW ?_)
            | (refine own_storeSub 1 0 146 (.tmp 4) (.tmp 50) rfl rfl rfl rfl [.int .i64 3, .int .i64 (-1), .int .u8 0] rfl (Nat.le_of_ble_eq_true rfl) rfl (by kernel_rfl) #[.int .i64 3, .int .i64 (-1), .int .u8 0] rfl _ rfl OW OZ ?_; clear OW OZ; intro W OW OZ))
          refine leaves_own [] _ (Nat.le_of_eq HB0.out) (by simpa using OW.out) ?_
          intro W' hO
          exact ⟨_, results_ownRow hO 1 rfl rfl rfl Try.underlying146 rfl (by kernel_rfl), rfl, hO.done HB0⟩
    · obtain rfl : k = 4 := by omega
      have hhit : hit (co s) (gL r.toNat) = true := hit_ratio (by rw [HE.out.1]; exact HF0.out) (by rw [HE.out.1, HE.out.2.1]; exact HGD.out) hr0 (by rw [HE.out.2.1, HE.out.2.2.1]; exact H23.out.1 (by omega)) (by rw [HE.out.2.2.1, HE.out.2.2.2]; exact H23.out.2 (by omega))
      have hp := gL_lt255 hr0
      have HLG := Lib.hid (fun W h => flog_any fb r hr0 W h)
      obtain ⟨p, hpp⟩ : ∃ p, gL r.toNat = p := ⟨_, rfl⟩
      rw [hpp] at hhit hp HLG
      clear hb hk1 hk4 h4 H23 hpp q0 hr0
      have jp0 : (0 : Int) ≤ (p : Int) := by omega
      by_cases h39 : 39 ≤ p
      · have hl : LR = ⟨3, -1, 0⟩ := by
          rw [← HLR.out]
          refine locF_lost hn fun i hi => ?_
          cases hh : hit (co s) i with
          | false => rfl
          | true => have := hit_uniq hp (by omega) hhit hh; omega
        subst hl
        have jp : (39 : Int) ≤ (p : Int) := by omega
        clear hhit
        gi_wp2_with fail
        refine ⟨trivial, ?_⟩
        refine (callsIn_wide.2 (HLG.out _ (HFB.out _ _ OW.out))).mono ?_
        rintro e W8 ⟨rfl, qz, hq⟩
        have OW2 := Lib.hid (OW.out.drewN qz)
        have OZ2 := Lib.hid (show W8.heap.size = b0 + 1 + 1 ∧ b0 ≤ b0 + 1 + 1 by rw [hq]; exact OZ.out)
        have c0' : W8.cell? ⟨b0, 0, none⟩ = some (.int .u8 (s0.toNat : Int)) := by rw [hq]; exact c0
        rw [← hq] at OW2
        clear OW OZ cc c0 hq
        have OW := OW2
        have OZ := OZ2
        clear OW2 OZ2
        gi_wp2_with fail
        refine ⟨trivial, ?_⟩
        refine (callsIn_wide.2 (rsLost_any _)).mono ?_
        rintro e W9 ⟨rfl, hbw⟩
        obtain ⟨g9, OW2, OZ2⟩ := own_call OW OZ hbw
        clear hbw OW OZ
        have OW := OW2
        have OZ := OZ2
        clear OW2 OZ2
        gi_wp2_with (first
          | (refine own_loadRow 0 68 (.tmp 3) rfl rfl rfl rfl _ Try.underlying68 rfl HI4.out OW ?_)
          | (refine own_storeSub 1 0 146 (.tmp 4) (.tmp 67) rfl rfl rfl rfl [.int .i64 3, .int .i64 (-1), .int .u8 0] rfl (Nat.le_of_ble_eq_true rfl) rfl (by kernel_rfl) #[.int .i64 3, .int .i64 (-1), .int .u8 0] rfl _ rfl OW OZ ?_; clear OW OZ; intro W OW OZ))
        refine leaves_own [] _ (Nat.le_of_eq HB0.out) (by simpa using OW.out) ?_
        intro W' hO
        exact ⟨_, results_ownRow hO 1 rfl rfl rfl Try.underlying146 rfl (by kernel_rfl), rfl, hO.done HB0⟩
      · by_cases h36 : 36 ≤ p
        · have hl : LR = ⟨2, p, s0⟩ := by rw [← HLR.out, ← HE.out.1]; exact locF_hi (by omega) (by omega) hhit
          subst hl
          have jp : (p : Int) < 39 := by omega
          have jq : (36 : Int) ≤ (p : Int) := by omega
          clear hhit
          gi_wp2_with fail
          refine ⟨trivial, ?_⟩
          refine (callsIn_wide.2 (HLG.out _ (HFB.out _ _ OW.out))).mono ?_
          rintro e W8 ⟨rfl, qz, hq⟩
          have OW2 := Lib.hid (OW.out.drewN qz)
          have OZ2 := Lib.hid (show W8.heap.size = b0 + 1 + 1 ∧ b0 ≤ b0 + 1 + 1 by rw [hq]; exact OZ.out)
          have c0' : W8.cell? ⟨b0, 0, none⟩ = some (.int .u8 (s0.toNat : Int)) := by rw [hq]; exact c0
          rw [← hq] at OW2
          clear OW OZ cc c0 hq
          have OW := OW2
          have OZ := OZ2
          clear OW2 OZ2
          gi_wp2_with (refine own_storeSub 1 0 146 (.tmp 4) (.tmp 74) rfl rfl rfl rfl [.int .i64 2, .int .i64 (p : Int), .int .u8 (s0.toNat : Int)] rfl (Nat.le_of_ble_eq_true rfl) rfl (by kernel_rfl) #[.int .i64 2, .int .i64 (p : Int), .int .u8 (s0.toNat : Int)] rfl _ rfl OW OZ ?_; clear OW OZ; intro W OW OZ)
          refine leaves_own [] _ (Nat.le_of_eq HB0.out) (by simpa using OW.out) ?_
          intro W' hO
          exact ⟨_, results_ownRow hO 1 rfl rfl rfl Try.underlying146 rfl (by kernel_rfl), rfl, hO.done HB0⟩
        · have hl : LR = ⟨1, p, s0⟩ := by rw [← HLR.out, ← HE.out.1]; exact locF_lo (by omega) hhit
          subst hl
          have jp : (p : Int) < 39 := by omega
          have jq : (p : Int) < 36 := by omega
          clear hhit
          gi_wp2_with fail
          refine ⟨trivial, ?_⟩
          refine (callsIn_wide.2 (HLG.out _ (HFB.out _ _ OW.out))).mono ?_
          rintro e W8 ⟨rfl, qz, hq⟩
          have OW2 := Lib.hid (OW.out.drewN qz)
          have OZ2 := Lib.hid (show W8.heap.size = b0 + 1 + 1 ∧ b0 ≤ b0 + 1 + 1 by rw [hq]; exact OZ.out)
          have c0' : W8.cell? ⟨b0, 0, none⟩ = some (.int .u8 (s0.toNat : Int)) := by rw [hq]; exact c0
          rw [← hq] at OW2
          clear OW OZ cc c0 hq
          have OW := OW2
          have OZ := OZ2
          clear OW2 OZ2
          gi_wp2_with (refine own_storeSub 1 0 146 (.tmp 4) (.tmp 78) rfl rfl rfl rfl [.int .i64 1, .int .i64 (p : Int), .int .u8 (s0.toNat : Int)] rfl (Nat.le_of_ble_eq_true rfl) rfl (by kernel_rfl) #[.int .i64 1, .int .i64 (p : Int), .int .u8 (s0.toNat : Int)] rfl _ rfl OW OZ ?_; clear OW OZ; intro W OW OZ)
          refine leaves_own [] _ (Nat.le_of_eq HB0.out) (by simpa using OW.out) ?_
          intro W' hO
          exact ⟨_, results_ownRow hO 1 rfl rfl rfl Try.underlying146 rfl (by kernel_rfl), rfl, hO.done HB0⟩
end Go.Proofs.Ytkeheickaogpiaa
namespace Go.Proofs.Ytkeheickaogpiaa
open Go.RowKit Go.Shelf
attribute [local go_sem] Oper.semAt_some
set_option linter.unusedVariables false
set_option linter.unusedSimpArgs false

section
variable {P : Program} {w : World} {o : Oper} {ρ : Operand → Value}
theorem run_s2aO {T : TypeId} {x : Operand} (ho : o.op = .sliceToArrayPointer T x) {vx v : Value} (hx : ρ x = vx) (hr : (Instr.arrayAt T vx).run P w = .ok v w) : (execOp ρ o).run P w = .ok (.value v) w := by
  unfold execOp
  simp only [ho, hx, Sem.run_bind, hr, Result.andThen_ok, Sem.run_pure]
end
/-- All blocks but g are kept; g holds what it held, or o. -/
structure RowR (g : Nat) (o : Obj) (x y : World) : Prop where
  os : y.os = x.os
  tape : y.tape = x.tape
  output : y.output = x.output
  size : x.heap.size ≤ y.heap.size
  far : ∀ b, b < x.heap.size → b ≠ g → y.heap[b]? = x.heap[b]?
  alt : y.heap[g]? = x.heap[g]? ∨ y.heap[g]? = some o
section
variable {g : Nat} {o : Obj} {x y z w w' W W' : World} {B : Nat} {base : World} {L : Objs}
theorem RowR.trans (x y z : World) (h : RowR g o x y) (k : RowR g o y z) : RowR g o x z :=
  ⟨k.os.trans h.os, k.tape.trans h.tape, k.output.trans h.output, Nat.le_trans h.size k.size, fun b hb hg => (k.far b (Nat.lt_of_lt_of_le hb h.size) hg).trans (h.far b hb hg), by
    rcases k.alt with e | e
    · rcases h.alt with e2 | e2
      · exact .inl (e.trans e2)
      · exact .inr (e.trans e2)
    · exact .inr e⟩
theorem RowR.refl (x : World) : RowR g o x x := ⟨rfl, rfl, rfl, Nat.le_refl _, fun _ _ _ => rfl, .inl rfl⟩
theorem RowR.drew (x : World) : RowR g o x x.drew := ⟨rfl, rfl, rfl, Nat.le_refl _, fun _ _ _ => rfl, .inl rfl⟩
theorem RowR.keeps (h : RowR g o x y) (hx : x.heap[g]? = some o) : y.heap[g]? = some o := h.alt.elim (fun e => e.trans hx) id
theorem RowR.get {k : Nat} {p : Nat × Obj} (OW : Own B base L w) (hk : L[k]? = some p) (hne : p.1 ≠ g) (h : RowR g o w w') : w'.heap[p.1]? = some p.2 :=
  (h.far _ (OW.lt (List.mem_of_getElem? hk)) hne).trans (OW.get hk)
/-- Behind the region: g holds o. -/
theorem Own.rowed {k : Nat} {o0 : Obj} (OW : Own B base L w) (hk : L[k]? = some (g, o0)) (h : RowR g o w w') (hg : w'.heap[g]? = some o) : Own B base (L.set k (g, o)) w' :=
  OW.putG hk h.os h.tape h.output h.size hg h.far
end
section
variable {F : Fence} {n : Nat} {P : Program} {L : List Oper} {N : Nat} {Q : Exit → Act → World → Prop} {V : Nat → Value → World → Prop} {D : Nat → List Nat} {a : Act} {w : World} {k : Nat} {o : Oper}
/-- A whole block is stored. -/
theorem held_storeR (hF : Fence.free F) (hg : o.guard = none) (T : TypeId) (x y : Operand) (ho : o.op = .store T x y) (g : Nat) (t : TypeId) (cs cs' : Array Value) (hw : w.heap[g]? = some (.cells cs t (0, 0))) (hs : cs'.size = cs.size) (h1 : cs'.all (·.oneCell') = true) (hsz : (P.info? T).map (·.size) = some cs'.size)
    (hV : ∀ w' : World, w'.heap[g]? = some (.cells cs' t (0, 0)) → V k undef w')
    (h : ∀ (xs : Nat → Value) (w' : World), (∀ j ∈ D k, V j (xs j) w') → RowR g (.cells cs' t (0, 0)) w w' → (putsH xs (L.take N) 0 a).eval x = .pointer (some ⟨g, 0, none⟩) ∧ (putsH xs (L.take N) 0 a).eval y = .agg cs') : HeldOp F n P L N Q V (RowR g (.cells cs' t (0, 0))) D a w k o := by
  refine ⟨?_⟩
  intro xs w' hk hR K hK
  rw [if_pos (by simp [Region.wanted, hg])]
  obtain ⟨hx, hy⟩ := h xs w' hk hR
  have hb : ∃ c, w'.heap[g]? = some (.cells c t (0, 0)) ∧ c.size = cs'.size := by
    rcases hR.alt with e | e
    · exact ⟨cs, e.trans hw, hs.symm⟩
    · exact ⟨cs', e, rfl⟩
  obtain ⟨c, hb, hcs⟩ := hb
  have hr := run_storeVar_row (P := P) w' g t T c cs' hb hsz hcs h1
  unfold Oper.wpIn
  refine ⟨fun f _ => hF.2 f, ?_⟩
  have hr2 : (execOp (putsH xs (L.take N) 0 a).eval o).run P w' = .ok .skip (w'.setRow g cs') := by
    unfold execOp
    simp only [ho, hx, hy, Instr.storeAt, Instr.sureAddr, Sem.run_bind, Sem.run_pure, Result.andThen_ok, hr]
  rw [Oper.semAt_plain F _ o (fun c hc => by rw [ho] at hc; cases hc), hr2]
  have hg2 := setRow_heap w' g c cs' t (0, 0) hb
  exact ⟨undef, rfl, hK _ _ (hV _ hg2) ⟨rfl, rfl, rfl, by simp, fun b _ hbg => setRow_other w' g b cs' hbg, .inr hg2⟩⟩
end
theorem locF_fixed {s : Nat → UInt8} (h : (((locF s).kind : Int) == 1) = true) : ∃ i : Nat, i ≤ 35 ∧ (locF s).place = (i : Int) := by
  unfold locF at h ⊢
  by_cases hn : nul s
  · rw [if_pos hn] at h; cases h
  · rw [if_neg hn] at h ⊢
    cases hf : fnd s 39 with
    | none => rw [hf] at h; cases h
    | some i =>
      rw [hf] at h
      by_cases h35 : 35 < i
      · simp only [if_pos h35] at h; cases h
      · exact ⟨i, by omega, by simp only [if_neg h35]⟩
theorem fixed_lt {s : Nat → UInt8} (h : (((locF s).kind : Int) == 1) = true) : (locF s).place.toNat < 36 := by
  obtain ⟨i, h1, h2⟩ := locF_fixed h
  rw [h2, Int.toNat_natCast]; omega
theorem idx36 (g : Nat) {s : Nat → UInt8} (h : (((locF s).kind : Int) == 1) = true) (W : World) : (Instr.indexAt 79 (.pointer (some ⟨g, 0, none⟩)) (.int .i64 (locF s).place)).run Try.prog W = .ok (.pointer (some ⟨g, (locF s).place.toNat, none⟩)) W := by
  obtain ⟨i, h1, h2⟩ := locF_fixed h
  rw [h2, Int.toNat_natCast]
  exact arX36 g i (by omega) W
theorem slice36 (g : Nat) (W : World) : (Instr.sliceAt 79 (.pointer (some ⟨g, 0, none⟩)) (some (.int .i64 4)) none none).run Try.prog W = .ok (.slice (some ⟨g, 4, none⟩) 32 32) W := by
  rw [run_sliceAt_array_l (P := Try.prog) (w := W) (t := 79) (a := ⟨g, 0, none⟩) (by kernel_rfl) (kl := .i64) (l := 4) (by omega) (by rw [arL36]; omega), arZ36, Result.andThen_ok]
  unfold slicedAt
  rw [arL36, show (4 : Int).toNat = 4 from rfl, Nat.mul_one, addr_addZ, if_neg (by omega)]
theorem drop36 {X : List UInt8} (h : X.length = 36) : (X.drop 4).length = 32 := by rw [List.length_drop, h]
theorem load36 {V : World} {g : Nat} {X : List UInt8} (hk : V.heap[g]? = some (.cells (rawV X) 79 (0, 0))) (hX : X.length = 36) : (loadVar 67 ⟨g, 4, none⟩).run Try.prog V = .ok (.agg (rawV (X.drop 4))) V := by
  have h := run_loadVar_sub (P := Try.prog) V g 4 79 67 (rawV X) ((X.drop 4).map vU) hk (by
    unfold rawV
    rw [List.length_map, List.length_drop, hX]
    simp only [List.map_drop]
    rw [List.take_of_length_le (by rw [List.length_drop, List.length_map, hX]; exact Nat.le_refl _)]) Try.underlying67 rfl (by rw [List.length_map, List.length_drop, hX]; exact arI32)
  exact h
/-- The data of a word. -/
def decL (d v : List UInt8) : List UInt8 := bif ((locF (co (synL d v))).kind : Int) == 1 then (d.set (locF (co (synL d v))).place.toNat ((d.getD (locF (co (synL d v))).place.toNat 0) ^^^ (locF (co (synL d v))).val)).drop 4 else d.drop 4

set_option maxRecDepth 100000 in
set_option maxHeartbeats 1000000 in
theorem decode_any (cb fb : Nat) (d v : List UInt8) (hd : d.length = 36) (hv : v.length = 3) (w : World) (hC : CodeAt w cb fb) : Calls Try.prog 84 #[.pointer (some ⟨cb, 0, none⟩), .agg (rawV d), .agg (rawV v)] w fun e w' => e = .returned (.tuple #[.agg (rawV (decL d v)), .agg #[.int .i64 ((locF (co (synL d v))).kind : Int), .int .i64 (locF (co (synL d v))).place, .int .u8 ((locF (co (synL d v))).val.toNat : Int)]]) ∧ Below w.heap.size w w' := by
  obtain ⟨b0, hb0⟩ : ∃ b0, w.heap.size = b0 := ⟨_, rfl⟩
  have HB0 := Lib.hid hb0
  have OW := Lib.hid (Own.start b0 w)
  have OZ := Lib.hid (And.intro hb0 (Nat.le_refl b0))
  clear hb0
  have HCODE := Lib.hid (fun (L : Objs) (V : World) (h : Own b0 w L V) => (show CodeAt V cb fb from hC.below (by rw [HB0.out]; exact h.below (Nat.le_of_eq HB0.out.symm))))
  clear hC
  refine (callsIn_wide (n := 6)).1 ?_
  refine callsIn_of_wp_marks Try.func84 rfl trivial ?_ rfl
  simp only [Try.ntmps84, List.size_toArray, List.length_cons, List.length_nil, Nat.reduceAdd, Nat.reduceSub, Array.replicate_succ, Array.replicate_zero, List.push_toArray, List.append_toArray, List.nil_append, List.cons_append]
  gi_wp2_with (first | (refine own_boxV 4 79 (.tmp 1) rfl rfl rfl (.agg (rawV d)) rfl (rawV d) rfl OW OZ ?_; clear OW OZ; intro W g1 OW OZ) | (refine own_boxV 5 43 (.tmp 2) rfl rfl rfl (.agg (rawV v)) rfl (rawV v) rfl OW OZ ?_; clear OW OZ; intro W g2 OW OZ) | (refine own_allocV 6 67 rfl rfl rfl (rawV (List.replicate 32 0)) al32 OW OZ ?_; clear OW OZ; intro W g3 OW OZ) | (refine own_allocV 7 146 rfl rfl rfl #[.int .i64 0, .int .i64 0, .int .u8 0] (fun _ => by kernel_rfl) OW OZ ?_; clear OW OZ; intro W g4 OW OZ) | (refine own_loadRowV 11 0 79 (.tmp 4) rfl rfl rfl rfl rfl _ Try.underlying79 rfl (arJ36 (show (d).length = 36 from hd)) OW ?_) | (refine own_loadRowV 12 1 43 (.tmp 5) rfl rfl rfl rfl rfl _ Try.underlying43 rfl (arJ3 (show (v).length = 3 from hv)) OW ?_))
  refine ⟨trivial, ?_⟩
  refine (callsIn_wide.2 (synd_any cb fb d v (hd) (hv) _ (HCODE.out _ _ OW.out))).mono ?_
  rintro e Wg5 ⟨rfl, hbw⟩
  obtain ⟨g5, OW2, OZ2⟩ := own_call OW OZ hbw
  clear hbw OW OZ
  have OW := OW2
  have OZ := OZ2
  clear OW2 OZ2
  gi_wp2_with fail
  refine ⟨trivial, ?_⟩
  refine (callsIn_wide.2 (locate_any cb fb (synL d v) (by simp only [synL_len, List.length_set, List.length_drop, Nat.reduceSub, hd, hv]) _ (HCODE.out _ _ OW.out))).mono ?_
  rintro e Wg6 ⟨rfl, hbw⟩
  obtain ⟨g6, OW2, OZ2⟩ := own_call OW OZ hbw
  clear hbw OW OZ
  have OW := OW2
  have OZ := OZ2
  clear OW2 OZ2
  gi_upto_region 2 with (first | (refine own_allocV 8 146 rfl rfl rfl #[.int .i64 0, .int .i64 0, .int .u8 0] (fun _ => by kernel_rfl) OW OZ ?_; clear OW OZ; intro W g7 OW OZ) | (refine own_storeSub 4 0 146 (.tmp 8) (.tmp 14) rfl rfl rfl rfl [.int .i64 ((locF (co (synL d v))).kind : Int), .int .i64 (locF (co (synL d v))).place, .int .u8 ((locF (co (synL d v))).val.toNat : Int)] rfl (Nat.le_of_ble_eq_true rfl) rfl (by kernel_rfl) #[.int .i64 ((locF (co (synL d v))).kind : Int), .int .i64 (locF (co (synL d v))).place, .int .u8 ((locF (co (synL d v))).val.toNat : Int)] rfl _ rfl OW OZ ?_; clear OW OZ; intro W OW OZ))
  obtain ⟨eo82, qeo82⟩ : ∃ e, (((locF (co (synL d v))).kind : Int) == 1) = e := ⟨_, rfl⟩
  refine wpIn_region_heldL 3 (atD [[], [0], [1]]) (atV [fun vH _ => vH = .pointer (some ⟨g6, 0, none⟩), fun vH _ => vH = .int .i64 ((locF (co (synL d v))).kind : Int), fun vH _ => vH = .bool eo82]) BelowR (by kernel_rfl) BelowR.trans (BelowR.refl _)
    (StV.atV (.const _ (.const _ (.const _ .nil))))
    ⟨?o8x0, ?o8x1, ?o8x2, trivial⟩ ?_
  case o8x0 =>
    exact held_run free_wide rfl (by rfl) BelowR.refl fun xH w' kH hR => ⟨_, run_fldO rfl (pO (by kernel_rfl) rfl) (by kernel_rfl), rfl⟩
  case o8x1 =>
    exact held_load free_wide rfl BelowR.refl 3 (.tmp 15) rfl fun xH w' kH hR => ⟨_, _, (pT 0 (by kernel_rfl) (by kernel_rfl) (kH 0 (by decide))), ldC OW hR 4 rfl rfl naInt, rfl⟩
  case o8x2 =>
    exact held_run free_wide rfl (by rfl) BelowR.refl fun xH w' kH hR => ⟨_, run_binO rfl (pT 1 (by kernel_rfl) (by kernel_rfl) (kH 1 (by decide))) rfl bin_eql, (congrArg Value.bool qeo82)⟩
  intro xH w' hv hR
  subst qeo82
  have h0 : xH 0 = _ := hv 0 (by omega)
  have h1 : xH 1 = _ := hv 1 (by omega)
  have h2 : xH 2 = _ := hv 2 (by omega)
  simp only [List.take_succ_cons, List.take_zero, List.drop_succ_cons, List.drop_zero, putsH, Act.put, List.setIfInBounds_toArray, List.set_cons_succ, List.set_cons_zero, h0, h1, h2]
  have OW2 := Lib.hid (OW.out.step hR)
  clear hv hR OW OZ h0 h1 h2
  have OW := OW2
  clear OW2
  obtain ⟨g9, OZ⟩ := own_size OW HB0
  cases hB10 : (((locF (co (synL d v))).kind : Int) == 1)
  case true =>
    gi_upto_region 3 with fail
    refine wpIn_region_held 8 (atD [[], [0], [1], [2], [], [4], [3, 5], [1]]) (atV [fun vH _ => vH = .pointer (some ⟨g6, 1, none⟩), fun vH _ => vH = .int .i64 (locF (co (synL d v))).place, fun vH _ => vH = .pointer (some ⟨b0, ((locF (co (synL d v))).place.toNat), none⟩), fun vH _ => vH = .int .u8 ((d.getD ((locF (co (synL d v))).place.toNat) 0).toNat : Int), fun vH _ => vH = .pointer (some ⟨g6, 2, none⟩), fun vH _ => vH = .int .u8 ((locF (co (synL d v))).val.toNat : Int), fun vH _ => vH = .int .u8 (((d.getD ((locF (co (synL d v))).place.toNat) 0) ^^^ (locF (co (synL d v))).val).toNat : Int), fun vH _ => vH = .pointer (some ⟨b0, ((locF (co (synL d v))).place.toNat), none⟩)]) BelowR (by kernel_rfl) (by kernel_rfl) BelowR.trans (BelowR.drew _)
      (StV.atV (.const _ (.const _ (.const _ (.const _ (.const _ (.const _ (.const _ (.const _ .nil)))))))))
      ⟨?o11x0, ?o11x1, ?o11x2, ?o11x3, ?o11x4, ?o11x5, ?o11x6, ?o11x7, trivial⟩ ?_
    case o11x0 =>
      exact held_run free_wide rfl (by rfl) BelowR.refl fun xH w' kH hR => ⟨_, run_fldO rfl (pO (by kernel_rfl) rfl) (by kernel_rfl), rfl⟩
    case o11x1 =>
      exact held_load free_wide rfl BelowR.refl 3 (.tmp 18) rfl fun xH w' kH hR => ⟨_, _, (pT 0 (by kernel_rfl) (by kernel_rfl) (kH 0 (by decide))), ldC OW hR 4 rfl rfl naInt, rfl⟩
    case o11x2 =>
      exact held_run free_wide rfl (by rfl) BelowR.refl fun xH w' kH hR => ⟨_, run_idxO (vx := .pointer (some ⟨b0, 0, none⟩)) (vi := .int .i64 (locF (co (synL d v))).place) rfl (pO (by kernel_rfl) rfl) (pT 1 (by kernel_rfl) (by kernel_rfl) (kH 1 (by decide))) (idx36 _ (by assumption) _), rfl⟩
    case o11x3 =>
      exact held_load free_wide rfl BelowR.refl 5 (.tmp 20) rfl fun xH w' kH hR => ⟨_, _, (pT 2 (by kernel_rfl) (by kernel_rfl) (kH 2 (by decide))), ldC OW hR 0 rfl (rawV_get _ (by rw [(show (d).length = 36 from hd)]; exact fixed_lt (by assumption))) naU8, rfl⟩
    case o11x4 =>
      exact held_run free_wide rfl (by rfl) BelowR.refl fun xH w' kH hR => ⟨_, run_fldO rfl (pO (by kernel_rfl) rfl) (by kernel_rfl), rfl⟩
    case o11x5 =>
      exact held_load free_wide rfl BelowR.refl 5 (.tmp 22) rfl fun xH w' kH hR => ⟨_, _, (pT 4 (by kernel_rfl) (by kernel_rfl) (kH 4 (by decide))), ldC OW hR 4 rfl rfl naU8, rfl⟩
    case o11x6 =>
      exact held_run free_wide rfl (by rfl) BelowR.refl fun xH w' kH hR => ⟨_, run_binO rfl (pT 3 (by kernel_rfl) (by kernel_rfl) (kH 3 (by decide))) (pT 5 (by kernel_rfl) (by kernel_rfl) (kH 5 (by decide))) (bin_xor8), rfl⟩
    case o11x7 =>
      exact held_run free_wide rfl (by rfl) BelowR.refl fun xH w' kH hR => ⟨_, run_idxO (vx := .pointer (some ⟨b0, 0, none⟩)) (vi := .int .i64 (locF (co (synL d v))).place) rfl (pO (by kernel_rfl) rfl) (pT 1 (by kernel_rfl) (by kernel_rfl) (kH 1 (by decide))) (idx36 _ (by assumption) _), rfl⟩
    intro xH w' hv hR
    have h0 : xH 0 = _ := hv 0 (by omega)
    have h1 : xH 1 = _ := hv 1 (by omega)
    have h2 : xH 2 = _ := hv 2 (by omega)
    have h3 : xH 3 = _ := hv 3 (by omega)
    have h4 : xH 4 = _ := hv 4 (by omega)
    have h5 : xH 5 = _ := hv 5 (by omega)
    have h6 : xH 6 = _ := hv 6 (by omega)
    have h7 : xH 7 = _ := hv 7 (by omega)
    simp only [List.take_succ_cons, List.take_zero, List.drop_succ_cons, List.drop_zero, putsH, Act.put, List.setIfInBounds_toArray, List.set_cons_succ, List.set_cons_zero, h0, h1, h2, h3, h4, h5, h6, h7]
    have OW2 := Lib.hid (OW.out.step hR)
    clear hv hR OW OZ h0 h1 h2 h3 h4 h5 h6 h7
    have OW := OW2
    clear OW2
    obtain ⟨g12, OZ⟩ := own_size OW HB0
    gi_upto_region 4 with (first | (refine own_store 0 5 (.tmp 25) (.tmp 24) rfl rfl rfl rfl (.int .u8 (((d.getD ((locF (co (synL d v))).place.toNat) 0) ^^^ (locF (co (synL d v))).val).toNat : Int)) rfl (rawV (d.set ((locF (co (synL d v))).place.toNat) ((d.getD ((locF (co (synL d v))).place.toNat) 0) ^^^ (locF (co (synL d v))).val))) (rawV_set _ _ ((d.getD ((locF (co (synL d v))).place.toNat) 0) ^^^ (locF (co (synL d v))).val)) (by rw [rawV_size, (show (d).length = 36 from hd)]; exact fixed_lt (by assumption)) rfl szU8 _ rfl OW OZ ?_; clear OW OZ; intro W OW OZ))
    have hXL : ((d.set ((locF (co (synL d v))).place.toNat) ((d.getD ((locF (co (synL d v))).place.toNat) 0) ^^^ (locF (co (synL d v))).val))).length = 36 := by simp only [List.length_set, hd]
    refine wpIn_region_held 5 (atD [[], [0], [1], [], [2]]) (atV [fun v _ => v = .slice (some ⟨b0, 4, none⟩) 32 32, fun v _ => v = .pointer (some ⟨b0, 4, none⟩), fun u _ => u = .agg (rawV (((d.set ((locF (co (synL d v))).place.toNat) ((d.getD ((locF (co (synL d v))).place.toNat) 0) ^^^ (locF (co (synL d v))).val))).drop 4)), fun u _ => u = .agg #[.int .i64 ((locF (co (synL d v))).kind : Int), .int .i64 (locF (co (synL d v))).place, .int .u8 ((locF (co (synL d v))).val.toNat : Int)], fun _ W => W.heap[g2]? = some (.cells (rawV (((d.set ((locF (co (synL d v))).place.toNat) ((d.getD ((locF (co (synL d v))).place.toNat) 0) ^^^ (locF (co (synL d v))).val))).drop 4)) 67 (0, 0))])
      (RowR g2 (.cells (rawV (((d.set ((locF (co (synL d v))).place.toNat) ((d.getD ((locF (co (synL d v))).place.toNat) 0) ^^^ (locF (co (synL d v))).val))).drop 4)) 67 (0, 0))) (by kernel_rfl) (by kernel_rfl) RowR.trans (RowR.drew _)
      (StV.atV (.const _ (.const _ (.const _ (.const _ (.cons (fun v x y h k => k.keeps h) .nil))))))
      ⟨?rg130, ?rg131, ?rg132, ?rg133, ?rg134, trivial⟩ ?rg13end
    case rg130 => exact held_run free_wide rfl (by rfl) RowR.refl fun xH w' kH hR => ⟨_, run_sliceO rfl (by rw [show (putsH xH _ 0 _).eval (.tmp 4) = .pointer (some ⟨b0, 0, none⟩) from (putsH_old (by kernel_rfl)).trans rfl]; exact slice36 b0 w'), rfl⟩
    case rg131 => exact held_run free_wide rfl (by rfl) RowR.refl fun xH w' kH hR => ⟨.pointer (some ⟨b0, 4, none⟩), run_s2aO (vx := .slice (some ⟨b0, 4, none⟩) 32 32) rfl (by rw [putsH_tmp (i := 0) (by kernel_rfl) (by kernel_rfl)]; exact kH 0 (by decide)) (run_arrayAt w' 67 5 32 _ 32 32 Try.underlying67 (by omega)), rfl⟩
    case rg132 => exact held_load free_wide rfl RowR.refl 67 (.tmp 27) rfl fun xH w' kH hR => ⟨⟨b0, 4, none⟩, _, (by rw [putsH_tmp (i := 1) (by kernel_rfl) (by kernel_rfl)]; exact kH 1 (by decide)), load36 (RowR.get OW.out (k := 0) rfl (Own.apart OW.out (j := 0) (k := 2) rfl rfl (by decide)) hR) hXL, rfl⟩
    case rg133 => exact held_load free_wide rfl RowR.refl 146 (.tmp 8) rfl fun xH w' kH hR => ⟨⟨g6, 0, none⟩, _, (putsH_old (by kernel_rfl)).trans rfl, run_loadVar_row w' g6 _ _ _ (0, 0) _ (RowR.get OW.out (k := 4) rfl (Own.apart OW.out (j := 4) (k := 2) rfl rfl (by decide)) hR) Try.underlying146 rfl (by kernel_rfl), rfl⟩
    case rg134 => exact held_storeR free_wide rfl 67 (.tmp 6) (.tmp 28) rfl g2 _ _ _ (OW.out.get (k := 2) rfl) (by rw [rawV_size, rawV_size, drop36 hXL, List.length_replicate]) (rawV_one _) (arJ32 (drop36 hXL)) (fun w' h => h) fun xH w' kH hR => ⟨(putsH_old (by kernel_rfl)).trans rfl, by rw [putsH_tmp (i := 2) (by kernel_rfl) (by kernel_rfl)]; exact kH 2 (by decide)⟩
    intro xH w' hv hR
    have h0 : xH 0 = .slice (some ⟨b0, 4, none⟩) 32 32 := hv 0 (by omega)
    have h1 : xH 1 = .pointer (some ⟨b0, 4, none⟩) := hv 1 (by omega)
    have h2 : xH 2 = .agg (rawV (((d.set ((locF (co (synL d v))).place.toNat) ((d.getD ((locF (co (synL d v))).place.toNat) 0) ^^^ (locF (co (synL d v))).val))).drop 4)) := hv 2 (by omega)
    have h3 : xH 3 = .agg #[.int .i64 ((locF (co (synL d v))).kind : Int), .int .i64 (locF (co (synL d v))).place, .int .u8 ((locF (co (synL d v))).val.toNat : Int)] := hv 3 (by omega)
    have h4 : w'.heap[g2]? = some (.cells (rawV (((d.set ((locF (co (synL d v))).place.toNat) ((d.getD ((locF (co (synL d v))).place.toNat) 0) ^^^ (locF (co (synL d v))).val))).drop 4)) 67 (0, 0)) := hv 4 (by omega)
    simp only [List.take_succ_cons, List.take_zero, List.drop_succ_cons, List.drop_zero, putsH, Act.put, List.setIfInBounds_toArray, List.set_cons_succ, List.set_cons_zero, h0, h1, h2, h3]
    have OW2 := Lib.hid (OW.out.rowed (k := 2) rfl hR h4)
    clear hv hR OW OZ h0 h1 h2 h3 h4
    have OW := OW2
    clear OW2
    obtain ⟨gR, OZ⟩ := own_size OW HB0
    gi_wp2_with (refine own_storeSub 3 0 146 (.tmp 7) (.tmp 29) rfl rfl rfl rfl [.int .i64 ((locF (co (synL d v))).kind : Int), .int .i64 (locF (co (synL d v))).place, .int .u8 ((locF (co (synL d v))).val.toNat : Int)] rfl (Nat.le_of_ble_eq_true rfl) rfl (by kernel_rfl) #[.int .i64 ((locF (co (synL d v))).kind : Int), .int .i64 (locF (co (synL d v))).place, .int .u8 ((locF (co (synL d v))).val.toNat : Int)] rfl _ rfl OW OZ ?_; clear OW OZ; intro W OW OZ)
    gi_wp2
    refine leaves_own [] _ (Nat.le_of_eq HB0.out) (by simpa using OW.out) ?_
    intro W' hO
    exact ⟨.tuple #[.agg (rawV (((d.set ((locF (co (synL d v))).place.toNat) ((d.getD ((locF (co (synL d v))).place.toNat) 0) ^^^ (locF (co (synL d v))).val))).drop 4)), .agg #[.int .i64 ((locF (co (synL d v))).kind : Int), .int .i64 (locF (co (synL d v))).place, .int .u8 ((locF (co (synL d v))).val.toNat : Int)]], results_two rfl rfl rfl (run_loadVar_row _ _ _ _ _ (0, 0) _ (hO.get (k := 2) rfl) Try.underlying67 rfl (arJ32 (show ((((d.set ((locF (co (synL d v))).place.toNat) ((d.getD ((locF (co (synL d v))).place.toNat) 0) ^^^ (locF (co (synL d v))).val))).drop 4)).length = 32 by simp only [synL_len, List.length_set, List.length_drop, Nat.reduceSub, hd, hv]))) (run_loadVar_row _ _ _ _ _ (0, 0) _ (hO.get (k := 3) rfl) Try.underlying146 rfl (by kernel_rfl)), (by unfold decL; simp only [*, cond_true, cond_false]), hO.done HB0⟩
  gi_upto_region 4 with fail
  have hXL : (d).length = 36 := by simp only [List.length_set, hd]
  refine wpIn_region_held 5 (atD [[], [0], [1], [], [2]]) (atV [fun v _ => v = .slice (some ⟨b0, 4, none⟩) 32 32, fun v _ => v = .pointer (some ⟨b0, 4, none⟩), fun u _ => u = .agg (rawV ((d).drop 4)), fun u _ => u = .agg #[.int .i64 ((locF (co (synL d v))).kind : Int), .int .i64 (locF (co (synL d v))).place, .int .u8 ((locF (co (synL d v))).val.toNat : Int)], fun _ W => W.heap[g2]? = some (.cells (rawV ((d).drop 4)) 67 (0, 0))])
    (RowR g2 (.cells (rawV ((d).drop 4)) 67 (0, 0))) (by kernel_rfl) (by kernel_rfl) RowR.trans (RowR.drew _)
    (StV.atV (.const _ (.const _ (.const _ (.const _ (.cons (fun v x y h k => k.keeps h) .nil))))))
    ⟨?rg140, ?rg141, ?rg142, ?rg143, ?rg144, trivial⟩ ?rg14end
  case rg140 => exact held_run free_wide rfl (by rfl) RowR.refl fun xH w' kH hR => ⟨_, run_sliceO rfl (by rw [show (putsH xH _ 0 _).eval (.tmp 4) = .pointer (some ⟨b0, 0, none⟩) from (putsH_old (by kernel_rfl)).trans rfl]; exact slice36 b0 w'), rfl⟩
  case rg141 => exact held_run free_wide rfl (by rfl) RowR.refl fun xH w' kH hR => ⟨.pointer (some ⟨b0, 4, none⟩), run_s2aO (vx := .slice (some ⟨b0, 4, none⟩) 32 32) rfl (by rw [putsH_tmp (i := 0) (by kernel_rfl) (by kernel_rfl)]; exact kH 0 (by decide)) (run_arrayAt w' 67 5 32 _ 32 32 Try.underlying67 (by omega)), rfl⟩
  case rg142 => exact held_load free_wide rfl RowR.refl 67 (.tmp 27) rfl fun xH w' kH hR => ⟨⟨b0, 4, none⟩, _, (by rw [putsH_tmp (i := 1) (by kernel_rfl) (by kernel_rfl)]; exact kH 1 (by decide)), load36 (RowR.get OW.out (k := 0) rfl (Own.apart OW.out (j := 0) (k := 2) rfl rfl (by decide)) hR) hXL, rfl⟩
  case rg143 => exact held_load free_wide rfl RowR.refl 146 (.tmp 8) rfl fun xH w' kH hR => ⟨⟨g6, 0, none⟩, _, (putsH_old (by kernel_rfl)).trans rfl, run_loadVar_row w' g6 _ _ _ (0, 0) _ (RowR.get OW.out (k := 4) rfl (Own.apart OW.out (j := 4) (k := 2) rfl rfl (by decide)) hR) Try.underlying146 rfl (by kernel_rfl), rfl⟩
  case rg144 => exact held_storeR free_wide rfl 67 (.tmp 6) (.tmp 28) rfl g2 _ _ _ (OW.out.get (k := 2) rfl) (by rw [rawV_size, rawV_size, drop36 hXL, List.length_replicate]) (rawV_one _) (arJ32 (drop36 hXL)) (fun w' h => h) fun xH w' kH hR => ⟨(putsH_old (by kernel_rfl)).trans rfl, by rw [putsH_tmp (i := 2) (by kernel_rfl) (by kernel_rfl)]; exact kH 2 (by decide)⟩
  intro xH w' hv hR
  have h0 : xH 0 = .slice (some ⟨b0, 4, none⟩) 32 32 := hv 0 (by omega)
  have h1 : xH 1 = .pointer (some ⟨b0, 4, none⟩) := hv 1 (by omega)
  have h2 : xH 2 = .agg (rawV ((d).drop 4)) := hv 2 (by omega)
  have h3 : xH 3 = .agg #[.int .i64 ((locF (co (synL d v))).kind : Int), .int .i64 (locF (co (synL d v))).place, .int .u8 ((locF (co (synL d v))).val.toNat : Int)] := hv 3 (by omega)
  have h4 : w'.heap[g2]? = some (.cells (rawV ((d).drop 4)) 67 (0, 0)) := hv 4 (by omega)
  simp only [List.take_succ_cons, List.take_zero, List.drop_succ_cons, List.drop_zero, putsH, Act.put, List.setIfInBounds_toArray, List.set_cons_succ, List.set_cons_zero, h0, h1, h2, h3]
  have OW2 := Lib.hid (OW.out.rowed (k := 2) rfl hR h4)
  clear hv hR OW OZ h0 h1 h2 h3 h4
  have OW := OW2
  clear OW2
  obtain ⟨gR, OZ⟩ := own_size OW HB0
  gi_wp2_with (refine own_storeSub 3 0 146 (.tmp 7) (.tmp 29) rfl rfl rfl rfl [.int .i64 ((locF (co (synL d v))).kind : Int), .int .i64 (locF (co (synL d v))).place, .int .u8 ((locF (co (synL d v))).val.toNat : Int)] rfl (Nat.le_of_ble_eq_true rfl) rfl (by kernel_rfl) #[.int .i64 ((locF (co (synL d v))).kind : Int), .int .i64 (locF (co (synL d v))).place, .int .u8 ((locF (co (synL d v))).val.toNat : Int)] rfl _ rfl OW OZ ?_; clear OW OZ; intro W OW OZ)
  gi_wp2
  refine leaves_own [] _ (Nat.le_of_eq HB0.out) (by simpa using OW.out) ?_
  intro W' hO
  exact ⟨.tuple #[.agg (rawV ((d).drop 4)), .agg #[.int .i64 ((locF (co (synL d v))).kind : Int), .int .i64 (locF (co (synL d v))).place, .int .u8 ((locF (co (synL d v))).val.toNat : Int)]], results_two rfl rfl rfl (run_loadVar_row _ _ _ _ _ (0, 0) _ (hO.get (k := 2) rfl) Try.underlying67 rfl (arJ32 (show (((d).drop 4)).length = 32 by simp only [synL_len, List.length_set, List.length_drop, Nat.reduceSub, hd, hv]))) (run_loadVar_row _ _ _ _ _ (0, 0) _ (hO.get (k := 3) rfl) Try.underlying146 rfl (by kernel_rfl)), (by unfold decL; simp only [*, cond_true, cond_false]), hO.done HB0⟩
end Go.Proofs.Ytkeheickaogpiaa
