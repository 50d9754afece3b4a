/- RawTurns, walked: for every mode, raw bytes, bit, value, chip and byte the law returns true. -/
import Derived.Test.YthfncfcajjecbaaRawT4
import Derived.Test.YthfncfcajjecbaaRawT5
import Derived.Test.YthfncfcajjecbaaRawA
namespace Go.Proofs.Ythfncfcajjecbaa
open Go.RowKit Go.Shelf
attribute [local go_sem] Oper.semAt_some

theorem neq_rawO (xs ys : List UInt8) (hl : xs.length = 72) (hm : ys.length = 72) (x y : Operand) (w : World) :
    (do eqGuard .neq 23 x y (.agg (rawV xs)) (.agg (rawV ys)); Go.binOp .neq 23 (.agg (rawV xs)) (.agg (rawV ys)) : Sem Value).run Try.prog w = .ok (.bool (!decide (xs = ys))) w := by
  have h := eq_raw xs ys hl hm w
  have g := guard_raw
  simp [eqGuard, Go.binOp, Op.equal, Op.maxDepth, Sem.run_bind, g, h]
theorem sub1O (M : Nat) (h : M < 2) (x y : Operand) (w : World) : (do eqGuard .sub 3 x y (.int .i64 1) (.int .i64 (M : Int)); Go.binOp .sub 3 (.int .i64 1) (.int .i64 (M : Int)) : Sem Value).run Try.prog w = .ok (.int .i64 (1 - (M : Int))) w := by
  rcases (show M = 0 ∨ M = 1 by omega) with rfl | rfl <;> rfl
theorem whose_in {mode : Int} {p : Nat} (hp : p < 576) (hm : mode = 1 ∨ mode = 2) : whoseE mode (p : Int) = 0 ∧ whoseW mode (p : Int) = p / 8 / chN mode ∧ whoseC mode (p : Int) = p / 8 % chN mode := by
  have h : 0 ≤ (p : Int) ∧ (p : Int) < 576 ∧ (mode = 1 ∨ mode = 2) := ⟨by omega, by omega, hm⟩
  exact ⟨if_pos h, if_pos h, if_pos h⟩
theorem whose_out {mode b : Int} (h : ¬ (0 ≤ b ∧ b < 576 ∧ (mode = 1 ∨ mode = 2))) : whoseE mode b = 12 ∧ whoseW mode b = 0 ∧ whoseC mode b = 0 := ⟨if_neg h, if_neg h, if_neg h⟩

set_option maxRecDepth 100000 in
set_option maxHeartbeats 1000000 in
theorem RawTurns_walk (a0 : Int) (xs : List UInt8) (a2 a3 a4 a5 : Int) (w : World) (_w0 : (Lit.int .i64 a0).wf = true) (lx : xs.length = 72) (w2 : (Lit.int .i64 a2).wf = true) (_w3 : (Lit.int .i64 a3).wf = true) (_w4 : (Lit.int .i64 a4).wf = true) (w5 : (Lit.int .u8 a5).wf = true) :
    Calls Try.prog 7 #[.int .i64 a0, .agg (rawV xs), .int .i64 a2, .int .i64 a3, .int .i64 a4, .int .u8 a5] w fun e w' => e = .returned (.bool true) ∧ Below w.heap.size w w' := by
  obtain ⟨v0, v1⟩ := bounds_i64 w2
  obtain ⟨v, rfl⟩ : ∃ v : UInt8, a5 = (v.toNat : Int) := by
    have hb := bounds_u8 w5
    exact ⟨UInt8.ofNat a5.toNat, by rw [UInt8.toNat_ofNat']; omega⟩
  have lf : (flipI xs a2).length = 72 := by rw [flipI_length, lx]
  have lo : (forceI xs a2 a3).length = 72 := by rw [forceI_len, lx]
  have lc := chipB_len (mode := a0) (chip := a4) (v := v) lx
  have HCN := Lib.hid (fun W => refChips_any a0 W)
  have HFL := Lib.hid (fun W => rflip_any xs lx a2 v0 v1 W)
  have HFO := Lib.hid (fun W => rforce_any xs lx a2 a3 v0 v1 W)
  have HRF := Lib.hid (fun W => refForce_any xs lx a2 a3 v0 v1 W)
  have HR2 := Lib.hid (fun W => refForce_any xs lx a2 (1 - (bitI xs a2 : Int)) v0 v1 W)
  rw [force_flip] at HR2
  have HGT := Lib.hid (fun A W h => refGet_any A 72 72 xs lx (by unfold maxLen; omega) a2 v0 v1 W h)
  have HCI := Lib.hid (fun W => chip_any xs lx a0 a4 v W)
  have HRC := Lib.hid (fun W => refChip_any a0 xs lx a4 v W)
  have HWH := Lib.hid (fun W => whose_any a0 a2 v0 v1 W)
  have HEX := Lib.hid (fun W => exposure_any a0 (flipI xs a2) xs lf lx W)
  have HM2 := Lib.hid (bitI_lt xs a2)
  have NE1 := Lib.hid (fun x y W => neq_rawO (flipI xs a2) (flipI xs a2) lf lf x y W)
  have NE2 := Lib.hid (fun x y W => neq_rawO (forceI xs a2 a3) (forceI xs a2 a3) lo lo x y W)
  have NE3 := Lib.hid (fun x y W => neq_rawO (chipB a0 xs a4 v) (chipB a0 xs a4 v) lc lc x y W)
  rw [decide_eq_true rfl, Bool.not_true] at NE1 NE2 NE3
  have HC := Lib.hid (fun k (hk : k < xs.length) => rawV_get xs hk)
  have HSX := Lib.hid (show (Try.prog.info? 23).map (·.size) = some (rawV xs).size by rw [rawV_size, lx]; exact infoRaw)
  have HSF := Lib.hid (show (Try.prog.info? 23).map (·.size) = some (rawV (flipI xs a2)).size by rw [rawV_size, lf]; exact infoRaw)
  have HNF := Lib.hid (show (rawV (flipI xs a2)).size = (rawV zero72).size by rw [rawV_size, rawV_size, lf]; rfl)
  have HXF := Lib.hid (show (rawV (flipI xs a2)).size = (rawV xs).size by rw [rawV_size, rawV_size, lf, lx])
  have HNX := Lib.hid (show (rawV xs).size = (rawV zero72).size by rw [rawV_size, rawV_size, lx]; rfl)
  have HF1 := Lib.hid (rawV_one (flipI xs a2))
  have HX1 := Lib.hid (rawV_one xs)
  have HFE := Lib.hid (fun h => congrArg rawV (flipI_out (xs := xs) (i := a2) h))
  have HLX := Lib.hid lx
  obtain ⟨cx, hcx⟩ : ∃ cv, rawV xs = cv := ⟨_, rfl⟩
  obtain ⟨fv, hfv⟩ : ∃ cv, rawV (flipI xs a2) = cv := ⟨_, rfl⟩
  obtain ⟨fo, hfo⟩ : ∃ cv, rawV (forceI xs a2 a3) = cv := ⟨_, rfl⟩
  obtain ⟨ch, hch⟩ : ∃ cv, rawV (chipB a0 xs a4 v) = cv := ⟨_, rfl⟩
  rw [hcx] at HFL HFO HRF HR2 HCI HRC HEX HC HSX HXF HNX HX1 HFE ⊢
  rw [hfv] at HFL HR2 HEX NE1 HSF HNF HXF HF1 HFE
  rw [hfo] at HFO HRF NE2
  rw [hch] at HCI HRC NE3
  have hvl := v.toNat_lt
  obtain ⟨vn, hvn⟩ : ∃ vn, v.toNat = vn := ⟨_, rfl⟩
  rw [hvn] at HCI HRC hvl ⊢
  obtain ⟨n, hn⟩ : ∃ n, chN a0 = n := ⟨_, rfl⟩
  rw [hn] at HCN
  have HN := Lib.hid hn
  obtain ⟨M, hM⟩ : ∃ n, bitI xs a2 = n := ⟨_, rfl⟩
  rw [hM] at HGT HR2 HM2
  obtain ⟨b0, hb0⟩ : ∃ b0, w.heap.size = b0 := ⟨_, rfl⟩
  have HB0 := Lib.hid hb0
  have OW := Lib.hid (Own.start b0 w)
  have OZ := Lib.hid (And.intro hb0 (Nat.le_refl b0))
  clear hcx hfv hfo hch hvn hn hM hb0 lf lo lc lx w2 w5
  refine (callsIn_wide (n := 6)).1 ?_
  refine callsIn_of_wp_marks Try.func7 rfl trivial ?_ rfl
  simp only [Try.ntmps7, List.size_toArray, List.length_cons, List.length_nil, Nat.reduceAdd, Nat.reduceSub, Array.replicate_succ, Array.replicate_zero, List.push_toArray, List.append_toArray, List.nil_append, List.cons_append]
  by_cases hin : 0 ≤ a2 ∧ a2 < 576
  · obtain ⟨h0, h1⟩ := hin
    clear HFE
    gi_wp2_with (first | (refine own_box 23 (.tmp 1) rfl rfl (.agg cx) rfl cx rfl OW OZ ?_; clear OW OZ; intro W OW OZ))
    refine ⟨trivial, ?_⟩
    refine (callsIn_wide.2 (anchor9_any _)).mono ?_
    rintro e W1 ⟨rfl, hbw⟩
    obtain ⟨g1, OW2, OZ2⟩ := own_call OW OZ hbw
    clear hbw OW OZ
    have OW := OW2
    have OZ := OZ2
    clear OW2 OZ2
    gi_wp2_with fail
    refine ⟨trivial, ?_⟩
    refine (callsIn_wide.2 (HCN.out _)).mono ?_
    rintro e W2 ⟨rfl, rfl⟩
    gi_wp2_with (first | (refine own_loadRow 0 23 (.tmp 7) rfl rfl rfl rfl _ Try.underlying23 rfl HSX.out OW ?_))
    refine ⟨trivial, ?_⟩
    refine (callsIn_wide.2 (HFL.out _)).mono ?_
    rintro e W3 ⟨rfl, hbw⟩
    obtain ⟨g2, OW2, OZ2⟩ := own_call OW OZ hbw
    clear hbw OW OZ
    have OW := OW2
    have OZ := OZ2
    clear OW2 OZ2
    gi_upto_region 8 with
      (first
        | (refine own_alloc 23 rfl rfl _ alRaw OW OZ ?_; clear OW OZ; intro W OW OZ)
        | (refine own_loadRow 0 23 (.tmp 7) rfl rfl rfl rfl _ Try.underlying23 rfl HSX.out OW ?_)
        | (refine own_storeRow 1 23 (.tmp 15) (.tmp 32) rfl rfl rfl rfl fv rfl HNF.out HF1.out HSF.out _ rfl OW OZ ?_; clear OW OZ; intro W OW OZ)
        | (refine own_storeRow 2 23 (.tmp 16) (.tmp 33) rfl rfl rfl rfl cx rfl HNX.out HX1.out HSX.out _ rfl OW OZ ?_; clear OW OZ; intro W OW OZ)
        | (refine own_storeRow 2 23 (.tmp 16) (.tmp 41) rfl rfl rfl rfl fv rfl HXF.out HF1.out HSF.out _ rfl OW OZ ?_; clear OW OZ; intro W OW OZ))
    refine wpIn_region_held 7 (atD [[], [], [], [], [2, 3], [4], [0, 1, 5]]) (atV [fun v _ => v = .agg cx, fun v _ => v = .int .i64 a2, fun v _ => v = .slice (some ⟨b0, 0, none⟩) 72 72, fun v _ => v = .int .i64 a2, fun v _ => v = .int .i64 (M : Int), fun v _ => v = .int .i64 (1 - (M : Int)), fun v _ => v = .agg fv]) BelowR (by kernel_rfl) (by kernel_rfl) BelowR.trans (BelowR.drew _)
      (StV.atV (.const _ (.const _ (.const _ (.const _ (.const _ (.const _ (.const _ .nil))))))))
      ⟨?o0, ?o1, ?o2, ?o3, ?o4, ?o5, ?o6, trivial⟩ ?oend
    case o0 =>
      exact held_load free_wide rfl BelowR.refl 23 (.tmp 7) rfl fun xsH w' hk hR => ⟨⟨b0, 0, none⟩, _, ((putsH_old (by kernel_rfl)).trans rfl), run_loadVar_row w' b0 _ _ _ (0, 0) _ ((OW.out.step hR).get (k := 0) rfl) Try.underlying23 rfl HSX.out, rfl⟩
    case o1 =>
      exact held_move free_wide rfl BelowR.refl (.tmp 2) (.inl rfl) fun xsH w' _ _ => (putsH_old (by kernel_rfl)).trans rfl
    case o2 =>
      exact held_run free_wide rfl (by rfl) BelowR.refl fun xsH w' hk hR => ⟨.slice (some ⟨b0, 0, none⟩) 72 72, run_sliceO rfl (by rw [show (putsH xsH _ 0 _).eval (.tmp 7) = _ from (putsH_old (by kernel_rfl)).trans rfl]; exact rawSlice_all b0 w'), rfl⟩
    case o3 =>
      exact held_move free_wide rfl BelowR.refl (.tmp 2) (.inl rfl) fun xsH w' _ _ => (putsH_old (by kernel_rfl)).trans rfl
    case o4 =>
      refine held_call free_wide rfl 21 _ _ rfl (enters_of Try.func21 (by kernel_rfl) rfl) fun xsH w' hk hR => ?_
      have e2 : xsH 2 = .slice (some ⟨b0, 0, none⟩) 72 72 := hk 2 (by decide)
      have e3 : xsH 3 = .int .i64 a2 := hk 3 (by decide)
      refine ⟨#[.slice (some ⟨b0, 0, none⟩) 72 72, .int .i64 a2], ?_, ?_⟩
      · simp only [List.map_toArray, List.map_cons, List.map_nil]
        rw [putsH_tmp (i := 2) (by kernel_rfl) (by kernel_rfl), e2, putsH_tmp (i := 3) (by kernel_rfl) (by kernel_rfl), e3]
      · refine (callsIn_wide.2 (HGT.out _ w' (RdB.ofBlk ((OW.out.step hR).blk (k := 0) rfl) HC.out))).mono ?_
        rintro e w2 ⟨rfl, rfl⟩
        exact ⟨_, rfl, rfl, BelowR.refl _⟩
    case o5 =>
      exact held_run free_wide rfl (by rfl) BelowR.refl fun xsH w' hk hR => ⟨.int .i64 (1 - (M : Int)), run_binO (vx := .int .i64 1) (vy := .int .i64 (M : Int)) rfl rfl ((putsH_tmp (i := 4) (by kernel_rfl) (by kernel_rfl)).trans (show xsH 4 = .int .i64 (M : Int) from hk 4 (by decide))) (sub1O M HM2.out _ _ w'), rfl⟩
    case o6 =>
      refine held_call free_wide rfl 20 _ _ rfl (enters_of Try.func20 (by kernel_rfl) rfl) fun xsH w' hk hR => ?_
      have e0 : xsH 0 = .agg cx := hk 0 (by decide)
      have e1 : xsH 1 = .int .i64 a2 := hk 1 (by decide)
      have e5 : xsH 5 = .int .i64 (1 - (M : Int)) := hk 5 (by decide)
      refine ⟨#[.agg cx, .int .i64 a2, .int .i64 (1 - (M : Int))], ?_, ?_⟩
      · simp only [List.map_toArray, List.map_cons, List.map_nil]
        rw [putsH_tmp (i := 0) (by kernel_rfl) (by kernel_rfl), e0, putsH_tmp (i := 1) (by kernel_rfl) (by kernel_rfl), e1, putsH_tmp (i := 5) (by kernel_rfl) (by kernel_rfl), e5]
      · refine (callsIn_wide.2 (HR2.out w')).mono ?_
        rintro e w2 ⟨rfl, h2⟩
        exact ⟨_, rfl, rfl, h2⟩
    case oend =>
      intro xsH w' hv hR
      have h0 : xsH 0 = .agg cx := hv 0 (by omega)
      have h1 : xsH 1 = .int .i64 a2 := hv 1 (by omega)
      have h2 : xsH 2 = .slice (some ⟨b0, 0, none⟩) 72 72 := hv 2 (by omega)
      have h3 : xsH 3 = .int .i64 a2 := hv 3 (by omega)
      have h4 : xsH 4 = .int .i64 (M : Int) := hv 4 (by omega)
      have h5 : xsH 5 = .int .i64 (1 - (M : Int)) := hv 5 (by omega)
      have h6 : xsH 6 = .agg fv := hv 6 (by omega)
      simp only [List.take_succ_cons, List.take_zero, List.drop_succ_cons, List.drop_zero, putsH, Act.put, List.setIfInBounds_toArray, List.set_cons_succ, List.set_cons_zero, h0, h1, h2, h3, h4, h5, h6]
      have OW2 := Lib.hid (OW.out.step hR)
      clear hv hR OW OZ h0 h1 h2 h3 h4 h5 h6
      have OW := OW2
      clear OW2
      obtain ⟨GH, OZ⟩ := own_size OW HB0
      gi_upto_region 9 with
        (first
          | (refine own_alloc 23 rfl rfl _ alRaw OW OZ ?_; clear OW OZ; intro W OW OZ)
          | (refine own_loadRow 0 23 (.tmp 7) rfl rfl rfl rfl _ Try.underlying23 rfl HSX.out OW ?_)
          | (refine own_storeRow 1 23 (.tmp 15) (.tmp 32) rfl rfl rfl rfl fv rfl HNF.out HF1.out HSF.out _ rfl OW OZ ?_; clear OW OZ; intro W OW OZ)
          | (refine own_storeRow 2 23 (.tmp 16) (.tmp 33) rfl rfl rfl rfl cx rfl HNX.out HX1.out HSX.out _ rfl OW OZ ?_; clear OW OZ; intro W OW OZ)
          | (refine own_storeRow 2 23 (.tmp 16) (.tmp 41) rfl rfl rfl rfl fv rfl HXF.out HF1.out HSF.out _ rfl OW OZ ?_; clear OW OZ; intro W OW OZ))
      refine wpIn_region_held 27 (atD [[], [], [0, 1], [2], [3], [3], [3], [3, 4, 5, 6], [3], [3], [3], [3, 8, 9, 10], [3, 7, 11], [3, 12], [13], [14], [14], [14], [14], [14, 15, 16, 17, 18], [14], [14], [14], [14], [14, 20, 21, 22, 23], [14, 19, 24], [14, 25]]) (atV [fun v _ => v = .agg fv, fun v _ => v = .agg fv, fun v _ => v = .bool false, fun v _ => v = .bool false, fun v _ => v = .agg cx, fun v _ => v = .int .i64 a2, fun v _ => v = .int .i64 a3, fun v _ => v = .agg fo, fun v _ => v = .agg cx, fun v _ => v = .int .i64 a2, fun v _ => v = .int .i64 a3, fun v _ => v = .agg fo, fun v _ => v = .bool false, fun v _ => v = .bool false, fun v _ => v = .bool false, fun v _ => v = .agg cx, fun v _ => v = .int .i64 a0, fun v _ => v = .int .i64 a4, fun v _ => v = .int .u8 (vn : Int), fun v _ => v = .agg ch, fun v _ => v = .int .i64 a0, fun v _ => v = .agg cx, fun v _ => v = .int .i64 a4, fun v _ => v = .int .u8 (vn : Int), fun v _ => v = .agg ch, fun v _ => v = .bool false, fun v _ => v = .bool false]) BelowR (by kernel_rfl) (by kernel_rfl) BelowR.trans (BelowR.drew _)
        (StV.atV (.const _ (.const _ (.const _ (.const _ (.const _ (.const _ (.const _ (.const _ (.const _ (.const _ (.const _ (.const _ (.const _ (.const _ (.const _ (.const _ (.const _ (.const _ (.const _ (.const _ (.const _ (.const _ (.const _ (.const _ (.const _ (.const _ (.const _ .nil))))))))))))))))))))))))))))
        ⟨?p0, ?p1, ?p2, ?p3, ?p4, ?p5, ?p6, ?p7, ?p8, ?p9, ?p10, ?p11, ?p12, ?p13, ?p14, ?p15, ?p16, ?p17, ?p18, ?p19, ?p20, ?p21, ?p22, ?p23, ?p24, ?p25, ?p26, trivial⟩ ?pend
      case p0 =>
        exact held_load free_wide rfl BelowR.refl 23 (.tmp 15) rfl fun xsH w' hk hR => ⟨⟨g2, 0, none⟩, _, ((putsH_old (by kernel_rfl)).trans rfl), run_loadVar_row w' g2 _ _ _ (0, 0) _ ((OW.out.step hR).get (k := 1) rfl) Try.underlying23 rfl HSF.out, rfl⟩
      case p1 =>
        exact held_load free_wide rfl BelowR.refl 23 (.tmp 16) rfl fun xsH w' hk hR => ⟨⟨(g2 + 1), 0, none⟩, _, ((putsH_old (by kernel_rfl)).trans rfl), run_loadVar_row w' (g2 + 1) _ _ _ (0, 0) _ ((OW.out.step hR).get (k := 2) rfl) Try.underlying23 rfl HSF.out, rfl⟩
      case p2 =>
        exact held_run free_wide rfl (by rfl) BelowR.refl fun xsH w' hk hR => ⟨.bool false, run_binO (vx := .agg fv) (vy := .agg fv) rfl ((putsH_tmp (i := 0) (by kernel_rfl) (by kernel_rfl)).trans (show xsH 0 = .agg fv from hk 0 (by decide))) ((putsH_tmp (i := 1) (by kernel_rfl) (by kernel_rfl)).trans (show xsH 1 = .agg fv from hk 1 (by decide))) (NE1.out _ _ w'), rfl⟩
      case p3 =>
        exact held_move free_wide rfl BelowR.refl (.tmp 44) (.inl rfl) fun xsH w' hk _ => by
          have h : atV _ 2 (xsH 2) w' := hk 2 (by decide)
          rw [putsH_tmp (i := 2) (by kernel_rfl) (by kernel_rfl)]
          exact h
      case p4 =>
        exact held_loadG free_wide (heldGd_some 3 45 false rfl (by kernel_rfl) (by kernel_rfl) (by kernel_rfl) (fun xsH w' hk => hk 3 (by decide))) BelowR.refl 23 (.tmp 7) rfl fun xsH w' hk hR => ⟨⟨b0, 0, none⟩, _, ((putsH_old (by kernel_rfl)).trans rfl), run_loadVar_row w' b0 _ _ _ (0, 0) _ ((OW.out.step hR).get (k := 0) rfl) Try.underlying23 rfl HSX.out, rfl⟩
      case p5 =>
        exact held_moveG free_wide (heldGd_some 3 45 false rfl (by kernel_rfl) (by kernel_rfl) (by kernel_rfl) (fun xsH w' hk => hk 3 (by decide))) BelowR.refl (.tmp 2) (.inl rfl) fun xsH w' _ _ => (putsH_old (by kernel_rfl)).trans rfl
      case p6 =>
        exact held_moveG free_wide (heldGd_some 3 45 false rfl (by kernel_rfl) (by kernel_rfl) (by kernel_rfl) (fun xsH w' hk => hk 3 (by decide))) BelowR.refl (.tmp 3) (.inl rfl) fun xsH w' _ _ => (putsH_old (by kernel_rfl)).trans rfl
      case p7 =>
        refine held_callG free_wide (heldGd_some 3 45 false rfl (by kernel_rfl) (by kernel_rfl) (by kernel_rfl) (fun xsH w' hk => hk 3 (by decide))) 22 _ _ rfl (enters_of Try.func22 (by kernel_rfl) rfl) fun xsH w' hk hR => ?_
        have e4 : xsH 4 = .agg cx := hk 4 (by decide)
        have e5 : xsH 5 = .int .i64 a2 := hk 5 (by decide)
        have e6 : xsH 6 = .int .i64 a3 := hk 6 (by decide)
        refine ⟨#[.agg cx, .int .i64 a2, .int .i64 a3], ?_, ?_⟩
        · simp only [List.map_toArray, List.map_cons, List.map_nil]
          rw [putsH_tmp (i := 4) (by kernel_rfl) (by kernel_rfl), e4, putsH_tmp (i := 5) (by kernel_rfl) (by kernel_rfl), e5, putsH_tmp (i := 6) (by kernel_rfl) (by kernel_rfl), e6]
        · refine (callsIn_wide.2 (HFO.out w')).mono ?_
          rintro e w2 ⟨rfl, h2⟩
          exact ⟨_, rfl, rfl, h2⟩
      case p8 =>
        exact held_loadG free_wide (heldGd_some 3 45 false rfl (by kernel_rfl) (by kernel_rfl) (by kernel_rfl) (fun xsH w' hk => hk 3 (by decide))) BelowR.refl 23 (.tmp 7) rfl fun xsH w' hk hR => ⟨⟨b0, 0, none⟩, _, ((putsH_old (by kernel_rfl)).trans rfl), run_loadVar_row w' b0 _ _ _ (0, 0) _ ((OW.out.step hR).get (k := 0) rfl) Try.underlying23 rfl HSX.out, rfl⟩
      case p9 =>
        exact held_moveG free_wide (heldGd_some 3 45 false rfl (by kernel_rfl) (by kernel_rfl) (by kernel_rfl) (fun xsH w' hk => hk 3 (by decide))) BelowR.refl (.tmp 2) (.inl rfl) fun xsH w' _ _ => (putsH_old (by kernel_rfl)).trans rfl
      case p10 =>
        exact held_moveG free_wide (heldGd_some 3 45 false rfl (by kernel_rfl) (by kernel_rfl) (by kernel_rfl) (fun xsH w' hk => hk 3 (by decide))) BelowR.refl (.tmp 3) (.inl rfl) fun xsH w' _ _ => (putsH_old (by kernel_rfl)).trans rfl
      case p11 =>
        refine held_callG free_wide (heldGd_some 3 45 false rfl (by kernel_rfl) (by kernel_rfl) (by kernel_rfl) (fun xsH w' hk => hk 3 (by decide))) 20 _ _ rfl (enters_of Try.func20 (by kernel_rfl) rfl) fun xsH w' hk hR => ?_
        have e8 : xsH 8 = .agg cx := hk 8 (by decide)
        have e9 : xsH 9 = .int .i64 a2 := hk 9 (by decide)
        have e10 : xsH 10 = .int .i64 a3 := hk 10 (by decide)
        refine ⟨#[.agg cx, .int .i64 a2, .int .i64 a3], ?_, ?_⟩
        · simp only [List.map_toArray, List.map_cons, List.map_nil]
          rw [putsH_tmp (i := 8) (by kernel_rfl) (by kernel_rfl), e8, putsH_tmp (i := 9) (by kernel_rfl) (by kernel_rfl), e9, putsH_tmp (i := 10) (by kernel_rfl) (by kernel_rfl), e10]
        · refine (callsIn_wide.2 (HRF.out w')).mono ?_
          rintro e w2 ⟨rfl, h2⟩
          exact ⟨_, rfl, rfl, h2⟩
      case p12 =>
        exact held_runG free_wide (heldGd_some 3 45 false rfl (by kernel_rfl) (by kernel_rfl) (by kernel_rfl) (fun xsH w' hk => hk 3 (by decide))) (by rfl) BelowR.refl fun xsH w' hk hR => ⟨.bool false, run_binO (vx := .agg fo) (vy := .agg fo) rfl ((putsH_tmp (i := 7) (by kernel_rfl) (by kernel_rfl)).trans (show xsH 7 = .agg fo from hk 7 (by decide))) ((putsH_tmp (i := 11) (by kernel_rfl) (by kernel_rfl)).trans (show xsH 11 = .agg fo from hk 11 (by decide))) (NE2.out _ _ w'), rfl⟩
      case p13 =>
        refine held_run free_wide rfl (by rfl) BelowR.refl fun xsH w' hk hR => ⟨.bool false, ?_, rfl⟩
        refine run_pickF rfl ((putsH_tmp (i := 3) (by kernel_rfl) (by kernel_rfl)).trans (show xsH 3 = .bool false from hk 3 (by decide))) ?_
        exact (putsH_tmp (i := 12) (by kernel_rfl) (by kernel_rfl)).trans (show xsH 12 = .bool false from hk 12 (by decide))
      case p14 =>
        exact held_move free_wide rfl BelowR.refl (.tmp 55) (.inl rfl) fun xsH w' hk _ => by
          have h : atV _ 13 (xsH 13) w' := hk 13 (by decide)
          rw [putsH_tmp (i := 13) (by kernel_rfl) (by kernel_rfl)]
          exact h
      case p15 =>
        exact held_loadG free_wide (heldGd_some 14 56 false rfl (by kernel_rfl) (by kernel_rfl) (by kernel_rfl) (fun xsH w' hk => hk 14 (by decide))) BelowR.refl 23 (.tmp 7) rfl fun xsH w' hk hR => ⟨⟨b0, 0, none⟩, _, ((putsH_old (by kernel_rfl)).trans rfl), run_loadVar_row w' b0 _ _ _ (0, 0) _ ((OW.out.step hR).get (k := 0) rfl) Try.underlying23 rfl HSX.out, rfl⟩
      case p16 =>
        exact held_moveG free_wide (heldGd_some 14 56 false rfl (by kernel_rfl) (by kernel_rfl) (by kernel_rfl) (fun xsH w' hk => hk 14 (by decide))) BelowR.refl (.tmp 0) (.inl rfl) fun xsH w' _ _ => (putsH_old (by kernel_rfl)).trans rfl
      case p17 =>
        exact held_moveG free_wide (heldGd_some 14 56 false rfl (by kernel_rfl) (by kernel_rfl) (by kernel_rfl) (fun xsH w' hk => hk 14 (by decide))) BelowR.refl (.tmp 4) (.inl rfl) fun xsH w' _ _ => (putsH_old (by kernel_rfl)).trans rfl
      case p18 =>
        exact held_moveG free_wide (heldGd_some 14 56 false rfl (by kernel_rfl) (by kernel_rfl) (by kernel_rfl) (fun xsH w' hk => hk 14 (by decide))) BelowR.refl (.tmp 5) (.inl rfl) fun xsH w' _ _ => (putsH_old (by kernel_rfl)).trans rfl
      case p19 =>
        refine held_callG free_wide (heldGd_some 14 56 false rfl (by kernel_rfl) (by kernel_rfl) (by kernel_rfl) (fun xsH w' hk => hk 14 (by decide))) 18 _ _ rfl (enters_of Try.func18 (by kernel_rfl) rfl) fun xsH w' hk hR => ?_
        have e15 : xsH 15 = .agg cx := hk 15 (by decide)
        have e16 : xsH 16 = .int .i64 a0 := hk 16 (by decide)
        have e17 : xsH 17 = .int .i64 a4 := hk 17 (by decide)
        have e18 : xsH 18 = .int .u8 (vn : Int) := hk 18 (by decide)
        refine ⟨#[.agg cx, .int .i64 a0, .int .i64 a4, .int .u8 (vn : Int)], ?_, ?_⟩
        · simp only [List.map_toArray, List.map_cons, List.map_nil]
          rw [putsH_tmp (i := 15) (by kernel_rfl) (by kernel_rfl), e15, putsH_tmp (i := 16) (by kernel_rfl) (by kernel_rfl), e16, putsH_tmp (i := 17) (by kernel_rfl) (by kernel_rfl), e17, putsH_tmp (i := 18) (by kernel_rfl) (by kernel_rfl), e18]
        · refine (callsIn_wide.2 (HCI.out w')).mono ?_
          rintro e w2 ⟨rfl, h2⟩
          exact ⟨_, rfl, rfl, h2⟩
      case p20 =>
        exact held_moveG free_wide (heldGd_some 14 56 false rfl (by kernel_rfl) (by kernel_rfl) (by kernel_rfl) (fun xsH w' hk => hk 14 (by decide))) BelowR.refl (.tmp 0) (.inl rfl) fun xsH w' _ _ => (putsH_old (by kernel_rfl)).trans rfl
      case p21 =>
        exact held_loadG free_wide (heldGd_some 14 56 false rfl (by kernel_rfl) (by kernel_rfl) (by kernel_rfl) (fun xsH w' hk => hk 14 (by decide))) BelowR.refl 23 (.tmp 7) rfl fun xsH w' hk hR => ⟨⟨b0, 0, none⟩, _, ((putsH_old (by kernel_rfl)).trans rfl), run_loadVar_row w' b0 _ _ _ (0, 0) _ ((OW.out.step hR).get (k := 0) rfl) Try.underlying23 rfl HSX.out, rfl⟩
      case p22 =>
        exact held_moveG free_wide (heldGd_some 14 56 false rfl (by kernel_rfl) (by kernel_rfl) (by kernel_rfl) (fun xsH w' hk => hk 14 (by decide))) BelowR.refl (.tmp 4) (.inl rfl) fun xsH w' _ _ => (putsH_old (by kernel_rfl)).trans rfl
      case p23 =>
        exact held_moveG free_wide (heldGd_some 14 56 false rfl (by kernel_rfl) (by kernel_rfl) (by kernel_rfl) (fun xsH w' hk => hk 14 (by decide))) BelowR.refl (.tmp 5) (.inl rfl) fun xsH w' _ _ => (putsH_old (by kernel_rfl)).trans rfl
      case p24 =>
        refine held_callG free_wide (heldGd_some 14 56 false rfl (by kernel_rfl) (by kernel_rfl) (by kernel_rfl) (fun xsH w' hk => hk 14 (by decide))) 23 _ _ rfl (enters_of Try.func23 (by kernel_rfl) rfl) fun xsH w' hk hR => ?_
        have e20 : xsH 20 = .int .i64 a0 := hk 20 (by decide)
        have e21 : xsH 21 = .agg cx := hk 21 (by decide)
        have e22 : xsH 22 = .int .i64 a4 := hk 22 (by decide)
        have e23 : xsH 23 = .int .u8 (vn : Int) := hk 23 (by decide)
        refine ⟨#[.int .i64 a0, .agg cx, .int .i64 a4, .int .u8 (vn : Int)], ?_, ?_⟩
        · simp only [List.map_toArray, List.map_cons, List.map_nil]
          rw [putsH_tmp (i := 20) (by kernel_rfl) (by kernel_rfl), e20, putsH_tmp (i := 21) (by kernel_rfl) (by kernel_rfl), e21, putsH_tmp (i := 22) (by kernel_rfl) (by kernel_rfl), e22, putsH_tmp (i := 23) (by kernel_rfl) (by kernel_rfl), e23]
        · refine (callsIn_wide.2 (HRC.out w')).mono ?_
          rintro e w2 ⟨rfl, h2⟩
          exact ⟨_, rfl, rfl, h2⟩
      case p25 =>
        exact held_runG free_wide (heldGd_some 14 56 false rfl (by kernel_rfl) (by kernel_rfl) (by kernel_rfl) (fun xsH w' hk => hk 14 (by decide))) (by rfl) BelowR.refl fun xsH w' hk hR => ⟨.bool false, run_binO (vx := .agg ch) (vy := .agg ch) rfl ((putsH_tmp (i := 19) (by kernel_rfl) (by kernel_rfl)).trans (show xsH 19 = .agg ch from hk 19 (by decide))) ((putsH_tmp (i := 24) (by kernel_rfl) (by kernel_rfl)).trans (show xsH 24 = .agg ch from hk 24 (by decide))) (NE3.out _ _ w'), rfl⟩
      case p26 =>
        refine held_run free_wide rfl (by rfl) BelowR.refl fun xsH w' hk hR => ⟨.bool false, ?_, rfl⟩
        refine run_pickF rfl ((putsH_tmp (i := 14) (by kernel_rfl) (by kernel_rfl)).trans (show xsH 14 = .bool false from hk 14 (by decide))) ?_
        exact (putsH_tmp (i := 25) (by kernel_rfl) (by kernel_rfl)).trans (show xsH 25 = .bool false from hk 25 (by decide))
      case pend =>
        intro xsH w' hv hR
        have h0 : xsH 0 = .agg fv := hv 0 (by omega)
        have h1 : xsH 1 = .agg fv := hv 1 (by omega)
        have h2 : xsH 2 = .bool false := hv 2 (by omega)
        have h3 : xsH 3 = .bool false := hv 3 (by omega)
        have h4 : xsH 4 = .agg cx := hv 4 (by omega)
        have h5 : xsH 5 = .int .i64 a2 := hv 5 (by omega)
        have h6 : xsH 6 = .int .i64 a3 := hv 6 (by omega)
        have h7 : xsH 7 = .agg fo := hv 7 (by omega)
        have h8 : xsH 8 = .agg cx := hv 8 (by omega)
        have h9 : xsH 9 = .int .i64 a2 := hv 9 (by omega)
        have h10 : xsH 10 = .int .i64 a3 := hv 10 (by omega)
        have h11 : xsH 11 = .agg fo := hv 11 (by omega)
        have h12 : xsH 12 = .bool false := hv 12 (by omega)
        have h13 : xsH 13 = .bool false := hv 13 (by omega)
        have h14 : xsH 14 = .bool false := hv 14 (by omega)
        have h15 : xsH 15 = .agg cx := hv 15 (by omega)
        have h16 : xsH 16 = .int .i64 a0 := hv 16 (by omega)
        have h17 : xsH 17 = .int .i64 a4 := hv 17 (by omega)
        have h18 : xsH 18 = .int .u8 (vn : Int) := hv 18 (by omega)
        have h19 : xsH 19 = .agg ch := hv 19 (by omega)
        have h20 : xsH 20 = .int .i64 a0 := hv 20 (by omega)
        have h21 : xsH 21 = .agg cx := hv 21 (by omega)
        have h22 : xsH 22 = .int .i64 a4 := hv 22 (by omega)
        have h23 : xsH 23 = .int .u8 (vn : Int) := hv 23 (by omega)
        have h24 : xsH 24 = .agg ch := hv 24 (by omega)
        have h25 : xsH 25 = .bool false := hv 25 (by omega)
        have h26 : xsH 26 = .bool false := hv 26 (by omega)
        simp only [List.take_succ_cons, List.take_zero, List.drop_succ_cons, List.drop_zero, putsH, Act.put, List.setIfInBounds_toArray, List.set_cons_succ, List.set_cons_zero, h0, h1, h2, h3, h4, h5, h6, h7, h8, h9, h10, h11, h12, h13, h14, h15, h16, h17, h18, h19, h20, h21, h22, h23, h24, h25, h26]
        have OW2 := Lib.hid (OW.out.step hR)
        clear hv hR OW OZ h0 h1 h2 h3 h4 h5 h6 h7 h8 h9 h10 h11 h12 h13 h14 h15 h16 h17 h18 h19 h20 h21 h22 h23 h24 h25 h26
        have OW := OW2
        clear OW2
        obtain ⟨GH, OZ⟩ := own_size OW HB0
        obtain ⟨p, rfl⟩ := Int.eq_ofNat_of_zero_le h0
        by_cases hm : a0 = 1 ∨ a0 = 2
        · obtain ⟨e1, e2, e3⟩ := whose_in (p := p) (by omega) hm
          have HP1 := flip_expo hm HLX.out (show p < 576 by omega)
          rw [e1, e2, e3, show ((0 : Nat) : Int) = 0 from rfl] at HWH
          rw [HP1, show ((1 : Nat) : Int) = 1 from rfl] at HEX
          clear HP1 e1 e2 e3
          rcases hm with rfl | rfl
          · have hn9 : n = 9 := by rw [← HN.out]; rfl
            subst hn9
            rw [show ((9 : Nat) : Int) = 9 from rfl]
            rw [show chN _ = 9 from rfl] at HWH
            obtain ⟨Wn, hWn⟩ : ∃ x, p / 8 / 9 = x := ⟨_, rfl⟩
            obtain ⟨Cn, hCn⟩ : ∃ x, p / 8 % 9 = x := ⟨_, rfl⟩
            rw [hWn, hCn] at HWH
            have q1 : ((Wn : Int) * 9 + (Cn : Int) == (p : Int) / 8) = true := by rw [beq_iff_eq]; omega
            have i1 : (Cn : Int) < 9 := by omega
            have i2 : (Wn : Int) ≤ 72 := by omega
            clear hWn hCn
            gi_wp2_with fail
            refine ⟨trivial, ?_⟩
            refine (callsIn_wide.2 (HWH.out _)).mono ?_
            rintro e W5 ⟨rfl, hbw⟩
            obtain ⟨g4, OW2, OZ2⟩ := own_call OW OZ hbw
            clear hbw OW OZ
            have OW := OW2
            have OZ := OZ2
            clear OW2 OZ2
            gi_wp2_with (first
              | (refine own_loadRow 0 23 (.tmp 7) rfl rfl rfl rfl _ Try.underlying23 rfl HSX.out OW ?_)
              | (refine own_loadRow 1 23 (.tmp 15) rfl rfl rfl rfl _ Try.underlying23 rfl HSF.out OW ?_))
            refine ⟨trivial, ?_⟩
            refine (callsIn_wide.2 (HEX.out _)).mono ?_
            rintro e W6 ⟨rfl, hbw⟩
            obtain ⟨g5, OW2, OZ2⟩ := own_call OW OZ hbw
            clear hbw OW OZ
            have OW := OW2
            have OZ := OZ2
            clear OW2 OZ2
            gi_wp2
            refine leaves_own [] _ (Nat.le_of_eq HB0.out) (by simpa using OW.out) ?_
            intro W' hO
            exact ⟨_, by simp [results, Try.results7, go_sem], rfl, hO.done HB0⟩
          · have hn9 : n = 36 := by rw [← HN.out]; rfl
            subst hn9
            rw [show ((36 : Nat) : Int) = 36 from rfl]
            rw [show chN _ = 36 from rfl] at HWH
            obtain ⟨Wn, hWn⟩ : ∃ x, p / 8 / 36 = x := ⟨_, rfl⟩
            obtain ⟨Cn, hCn⟩ : ∃ x, p / 8 % 36 = x := ⟨_, rfl⟩
            rw [hWn, hCn] at HWH
            have q1 : ((Wn : Int) * 36 + (Cn : Int) == (p : Int) / 8) = true := by rw [beq_iff_eq]; omega
            have i1 : (Cn : Int) < 36 := by omega
            have i2 : (Wn : Int) ≤ 72 := by omega
            clear hWn hCn
            gi_wp2_with fail
            refine ⟨trivial, ?_⟩
            refine (callsIn_wide.2 (HWH.out _)).mono ?_
            rintro e W5 ⟨rfl, hbw⟩
            obtain ⟨g4, OW2, OZ2⟩ := own_call OW OZ hbw
            clear hbw OW OZ
            have OW := OW2
            have OZ := OZ2
            clear OW2 OZ2
            gi_wp2_with (first
              | (refine own_loadRow 0 23 (.tmp 7) rfl rfl rfl rfl _ Try.underlying23 rfl HSX.out OW ?_)
              | (refine own_loadRow 1 23 (.tmp 15) rfl rfl rfl rfl _ Try.underlying23 rfl HSF.out OW ?_))
            refine ⟨trivial, ?_⟩
            refine (callsIn_wide.2 (HEX.out _)).mono ?_
            rintro e W6 ⟨rfl, hbw⟩
            obtain ⟨g5, OW2, OZ2⟩ := own_call OW OZ hbw
            clear hbw OW OZ
            have OW := OW2
            have OZ := OZ2
            clear OW2 OZ2
            gi_wp2
            refine leaves_own [] _ (Nat.le_of_eq HB0.out) (by simpa using OW.out) ?_
            intro W' hO
            exact ⟨_, by simp [results, Try.results7, go_sem], rfl, hO.done HB0⟩
        · obtain ⟨e1, e2, e3⟩ := whose_out (mode := a0) (b := (p : Int)) (fun h => hm h.2.2)
          have hn0 : n = 0 := by rw [← HN.out]; unfold chN; rw [if_neg (by omega), if_neg (by omega)]
          subst hn0
          rw [e1, e2, e3, show ((0 : Nat) : Int) = 0 from rfl, show ((12 : Nat) : Int) = 12 from rfl] at HWH
          clear hm e1 e2 e3
          gi_wp2_with fail
          refine ⟨trivial, ?_⟩
          refine (callsIn_wide.2 (HWH.out _)).mono ?_
          rintro e W5 ⟨rfl, hbw⟩
          obtain ⟨g4, OW2, OZ2⟩ := own_call OW OZ hbw
          clear hbw OW OZ
          have OW := OW2
          have OZ := OZ2
          clear OW2 OZ2
          gi_wp2
          refine leaves_own [] _ (Nat.le_of_eq HB0.out) (by simpa using OW.out) ?_
          intro W' hO
          exact ⟨_, by simp [results, Try.results7, go_sem], rfl, hO.done HB0⟩
  · have HE := Lib.hid (HFE.out (by rw [HLX.out]; omega))
    obtain ⟨e1, e2, e3⟩ := whose_out (mode := a0) (b := a2) (fun h => hin ⟨h.1, h.2.1⟩)
    rw [e1, e2, e3, show ((0 : Nat) : Int) = 0 from rfl, show ((12 : Nat) : Int) = 12 from rfl] at HWH
    have hfc : fv = cx := HE.out
    subst hfc
    clear e1 e2 e3 HFE
    by_cases h0 : 0 ≤ a2
    · have h1 : 576 ≤ a2 := by omega
      clear hin
      gi_wp2_with (first | (refine own_box 23 (.tmp 1) rfl rfl (.agg fv) rfl fv rfl OW OZ ?_; clear OW OZ; intro W OW OZ))
      refine ⟨trivial, ?_⟩
      refine (callsIn_wide.2 (anchor9_any _)).mono ?_
      rintro e W1 ⟨rfl, hbw⟩
      obtain ⟨g1, OW2, OZ2⟩ := own_call OW OZ hbw
      clear hbw OW OZ
      have OW := OW2
      have OZ := OZ2
      clear OW2 OZ2
      gi_wp2_with fail
      refine ⟨trivial, ?_⟩
      refine (callsIn_wide.2 (HCN.out _)).mono ?_
      rintro e W2 ⟨rfl, rfl⟩
      gi_wp2_with (first | (refine own_loadRow 0 23 (.tmp 7) rfl rfl rfl rfl _ Try.underlying23 rfl HSX.out OW ?_))
      refine ⟨trivial, ?_⟩
      refine (callsIn_wide.2 (HFL.out _)).mono ?_
      rintro e W3 ⟨rfl, hbw⟩
      obtain ⟨g2, OW2, OZ2⟩ := own_call OW OZ hbw
      clear hbw OW OZ
      have OW := OW2
      have OZ := OZ2
      clear OW2 OZ2
      gi_upto_region 9 with
        (first
          | (refine own_alloc 23 rfl rfl _ alRaw OW OZ ?_; clear OW OZ; intro W OW OZ)
          | (refine own_loadRow 0 23 (.tmp 7) rfl rfl rfl rfl _ Try.underlying23 rfl HSX.out OW ?_)
          | (refine own_storeRow 1 23 (.tmp 15) (.tmp 32) rfl rfl rfl rfl fv rfl HNF.out HF1.out HSF.out _ rfl OW OZ ?_; clear OW OZ; intro W OW OZ)
          | (refine own_storeRow 2 23 (.tmp 16) (.tmp 33) rfl rfl rfl rfl fv rfl HNX.out HX1.out HSX.out _ rfl OW OZ ?_; clear OW OZ; intro W OW OZ)
          | (refine own_storeRow 2 23 (.tmp 16) (.tmp 41) rfl rfl rfl rfl fv rfl HXF.out HF1.out HSF.out _ rfl OW OZ ?_; clear OW OZ; intro W OW OZ))
      refine wpIn_region_held 27 (atD [[], [], [0, 1], [2], [3], [3], [3], [3, 4, 5, 6], [3], [3], [3], [3, 8, 9, 10], [3, 7, 11], [3, 12], [13], [14], [14], [14], [14], [14, 15, 16, 17, 18], [14], [14], [14], [14], [14, 20, 21, 22, 23], [14, 19, 24], [14, 25]]) (atV [fun v _ => v = .agg fv, fun v _ => v = .agg fv, fun v _ => v = .bool false, fun v _ => v = .bool false, fun v _ => v = .agg fv, fun v _ => v = .int .i64 a2, fun v _ => v = .int .i64 a3, fun v _ => v = .agg fo, fun v _ => v = .agg fv, fun v _ => v = .int .i64 a2, fun v _ => v = .int .i64 a3, fun v _ => v = .agg fo, fun v _ => v = .bool false, fun v _ => v = .bool false, fun v _ => v = .bool false, fun v _ => v = .agg fv, fun v _ => v = .int .i64 a0, fun v _ => v = .int .i64 a4, fun v _ => v = .int .u8 (vn : Int), fun v _ => v = .agg ch, fun v _ => v = .int .i64 a0, fun v _ => v = .agg fv, fun v _ => v = .int .i64 a4, fun v _ => v = .int .u8 (vn : Int), fun v _ => v = .agg ch, fun v _ => v = .bool false, fun v _ => v = .bool false]) BelowR (by kernel_rfl) (by kernel_rfl) BelowR.trans (BelowR.drew _)
        (StV.atV (.const _ (.const _ (.const _ (.const _ (.const _ (.const _ (.const _ (.const _ (.const _ (.const _ (.const _ (.const _ (.const _ (.const _ (.const _ (.const _ (.const _ (.const _ (.const _ (.const _ (.const _ (.const _ (.const _ (.const _ (.const _ (.const _ (.const _ .nil))))))))))))))))))))))))))))
        ⟨?r0, ?r1, ?r2, ?r3, ?r4, ?r5, ?r6, ?r7, ?r8, ?r9, ?r10, ?r11, ?r12, ?r13, ?r14, ?r15, ?r16, ?r17, ?r18, ?r19, ?r20, ?r21, ?r22, ?r23, ?r24, ?r25, ?r26, trivial⟩ ?rend
      case r0 =>
        exact held_load free_wide rfl BelowR.refl 23 (.tmp 15) rfl fun xsH w' hk hR => ⟨⟨g2, 0, none⟩, _, ((putsH_old (by kernel_rfl)).trans rfl), run_loadVar_row w' g2 _ _ _ (0, 0) _ ((OW.out.step hR).get (k := 1) rfl) Try.underlying23 rfl HSF.out, rfl⟩
      case r1 =>
        exact held_load free_wide rfl BelowR.refl 23 (.tmp 16) rfl fun xsH w' hk hR => ⟨⟨(g2 + 1), 0, none⟩, _, ((putsH_old (by kernel_rfl)).trans rfl), run_loadVar_row w' (g2 + 1) _ _ _ (0, 0) _ ((OW.out.step hR).get (k := 2) rfl) Try.underlying23 rfl HSF.out, rfl⟩
      case r2 =>
        exact held_run free_wide rfl (by rfl) BelowR.refl fun xsH w' hk hR => ⟨.bool false, run_binO (vx := .agg fv) (vy := .agg fv) rfl ((putsH_tmp (i := 0) (by kernel_rfl) (by kernel_rfl)).trans (show xsH 0 = .agg fv from hk 0 (by decide))) ((putsH_tmp (i := 1) (by kernel_rfl) (by kernel_rfl)).trans (show xsH 1 = .agg fv from hk 1 (by decide))) (NE1.out _ _ w'), rfl⟩
      case r3 =>
        exact held_move free_wide rfl BelowR.refl (.tmp 44) (.inl rfl) fun xsH w' hk _ => by
          have h : atV _ 2 (xsH 2) w' := hk 2 (by decide)
          rw [putsH_tmp (i := 2) (by kernel_rfl) (by kernel_rfl)]
          exact h
      case r4 =>
        exact held_loadG free_wide (heldGd_some 3 45 false rfl (by kernel_rfl) (by kernel_rfl) (by kernel_rfl) (fun xsH w' hk => hk 3 (by decide))) BelowR.refl 23 (.tmp 7) rfl fun xsH w' hk hR => ⟨⟨b0, 0, none⟩, _, ((putsH_old (by kernel_rfl)).trans rfl), run_loadVar_row w' b0 _ _ _ (0, 0) _ ((OW.out.step hR).get (k := 0) rfl) Try.underlying23 rfl HSX.out, rfl⟩
      case r5 =>
        exact held_moveG free_wide (heldGd_some 3 45 false rfl (by kernel_rfl) (by kernel_rfl) (by kernel_rfl) (fun xsH w' hk => hk 3 (by decide))) BelowR.refl (.tmp 2) (.inl rfl) fun xsH w' _ _ => (putsH_old (by kernel_rfl)).trans rfl
      case r6 =>
        exact held_moveG free_wide (heldGd_some 3 45 false rfl (by kernel_rfl) (by kernel_rfl) (by kernel_rfl) (fun xsH w' hk => hk 3 (by decide))) BelowR.refl (.tmp 3) (.inl rfl) fun xsH w' _ _ => (putsH_old (by kernel_rfl)).trans rfl
      case r7 =>
        refine held_callG free_wide (heldGd_some 3 45 false rfl (by kernel_rfl) (by kernel_rfl) (by kernel_rfl) (fun xsH w' hk => hk 3 (by decide))) 22 _ _ rfl (enters_of Try.func22 (by kernel_rfl) rfl) fun xsH w' hk hR => ?_
        have e4 : xsH 4 = .agg fv := hk 4 (by decide)
        have e5 : xsH 5 = .int .i64 a2 := hk 5 (by decide)
        have e6 : xsH 6 = .int .i64 a3 := hk 6 (by decide)
        refine ⟨#[.agg fv, .int .i64 a2, .int .i64 a3], ?_, ?_⟩
        · simp only [List.map_toArray, List.map_cons, List.map_nil]
          rw [putsH_tmp (i := 4) (by kernel_rfl) (by kernel_rfl), e4, putsH_tmp (i := 5) (by kernel_rfl) (by kernel_rfl), e5, putsH_tmp (i := 6) (by kernel_rfl) (by kernel_rfl), e6]
        · refine (callsIn_wide.2 (HFO.out w')).mono ?_
          rintro e w2 ⟨rfl, h2⟩
          exact ⟨_, rfl, rfl, h2⟩
      case r8 =>
        exact held_loadG free_wide (heldGd_some 3 45 false rfl (by kernel_rfl) (by kernel_rfl) (by kernel_rfl) (fun xsH w' hk => hk 3 (by decide))) BelowR.refl 23 (.tmp 7) rfl fun xsH w' hk hR => ⟨⟨b0, 0, none⟩, _, ((putsH_old (by kernel_rfl)).trans rfl), run_loadVar_row w' b0 _ _ _ (0, 0) _ ((OW.out.step hR).get (k := 0) rfl) Try.underlying23 rfl HSX.out, rfl⟩
      case r9 =>
        exact held_moveG free_wide (heldGd_some 3 45 false rfl (by kernel_rfl) (by kernel_rfl) (by kernel_rfl) (fun xsH w' hk => hk 3 (by decide))) BelowR.refl (.tmp 2) (.inl rfl) fun xsH w' _ _ => (putsH_old (by kernel_rfl)).trans rfl
      case r10 =>
        exact held_moveG free_wide (heldGd_some 3 45 false rfl (by kernel_rfl) (by kernel_rfl) (by kernel_rfl) (fun xsH w' hk => hk 3 (by decide))) BelowR.refl (.tmp 3) (.inl rfl) fun xsH w' _ _ => (putsH_old (by kernel_rfl)).trans rfl
      case r11 =>
        refine held_callG free_wide (heldGd_some 3 45 false rfl (by kernel_rfl) (by kernel_rfl) (by kernel_rfl) (fun xsH w' hk => hk 3 (by decide))) 20 _ _ rfl (enters_of Try.func20 (by kernel_rfl) rfl) fun xsH w' hk hR => ?_
        have e8 : xsH 8 = .agg fv := hk 8 (by decide)
        have e9 : xsH 9 = .int .i64 a2 := hk 9 (by decide)
        have e10 : xsH 10 = .int .i64 a3 := hk 10 (by decide)
        refine ⟨#[.agg fv, .int .i64 a2, .int .i64 a3], ?_, ?_⟩
        · simp only [List.map_toArray, List.map_cons, List.map_nil]
          rw [putsH_tmp (i := 8) (by kernel_rfl) (by kernel_rfl), e8, putsH_tmp (i := 9) (by kernel_rfl) (by kernel_rfl), e9, putsH_tmp (i := 10) (by kernel_rfl) (by kernel_rfl), e10]
        · refine (callsIn_wide.2 (HRF.out w')).mono ?_
          rintro e w2 ⟨rfl, h2⟩
          exact ⟨_, rfl, rfl, h2⟩
      case r12 =>
        exact held_runG free_wide (heldGd_some 3 45 false rfl (by kernel_rfl) (by kernel_rfl) (by kernel_rfl) (fun xsH w' hk => hk 3 (by decide))) (by rfl) BelowR.refl fun xsH w' hk hR => ⟨.bool false, run_binO (vx := .agg fo) (vy := .agg fo) rfl ((putsH_tmp (i := 7) (by kernel_rfl) (by kernel_rfl)).trans (show xsH 7 = .agg fo from hk 7 (by decide))) ((putsH_tmp (i := 11) (by kernel_rfl) (by kernel_rfl)).trans (show xsH 11 = .agg fo from hk 11 (by decide))) (NE2.out _ _ w'), rfl⟩
      case r13 =>
        refine held_run free_wide rfl (by rfl) BelowR.refl fun xsH w' hk hR => ⟨.bool false, ?_, rfl⟩
        refine run_pickF rfl ((putsH_tmp (i := 3) (by kernel_rfl) (by kernel_rfl)).trans (show xsH 3 = .bool false from hk 3 (by decide))) ?_
        exact (putsH_tmp (i := 12) (by kernel_rfl) (by kernel_rfl)).trans (show xsH 12 = .bool false from hk 12 (by decide))
      case r14 =>
        exact held_move free_wide rfl BelowR.refl (.tmp 55) (.inl rfl) fun xsH w' hk _ => by
          have h : atV _ 13 (xsH 13) w' := hk 13 (by decide)
          rw [putsH_tmp (i := 13) (by kernel_rfl) (by kernel_rfl)]
          exact h
      case r15 =>
        exact held_loadG free_wide (heldGd_some 14 56 false rfl (by kernel_rfl) (by kernel_rfl) (by kernel_rfl) (fun xsH w' hk => hk 14 (by decide))) BelowR.refl 23 (.tmp 7) rfl fun xsH w' hk hR => ⟨⟨b0, 0, none⟩, _, ((putsH_old (by kernel_rfl)).trans rfl), run_loadVar_row w' b0 _ _ _ (0, 0) _ ((OW.out.step hR).get (k := 0) rfl) Try.underlying23 rfl HSX.out, rfl⟩
      case r16 =>
        exact held_moveG free_wide (heldGd_some 14 56 false rfl (by kernel_rfl) (by kernel_rfl) (by kernel_rfl) (fun xsH w' hk => hk 14 (by decide))) BelowR.refl (.tmp 0) (.inl rfl) fun xsH w' _ _ => (putsH_old (by kernel_rfl)).trans rfl
      case r17 =>
        exact held_moveG free_wide (heldGd_some 14 56 false rfl (by kernel_rfl) (by kernel_rfl) (by kernel_rfl) (fun xsH w' hk => hk 14 (by decide))) BelowR.refl (.tmp 4) (.inl rfl) fun xsH w' _ _ => (putsH_old (by kernel_rfl)).trans rfl
      case r18 =>
        exact held_moveG free_wide (heldGd_some 14 56 false rfl (by kernel_rfl) (by kernel_rfl) (by kernel_rfl) (fun xsH w' hk => hk 14 (by decide))) BelowR.refl (.tmp 5) (.inl rfl) fun xsH w' _ _ => (putsH_old (by kernel_rfl)).trans rfl
      case r19 =>
        refine held_callG free_wide (heldGd_some 14 56 false rfl (by kernel_rfl) (by kernel_rfl) (by kernel_rfl) (fun xsH w' hk => hk 14 (by decide))) 18 _ _ rfl (enters_of Try.func18 (by kernel_rfl) rfl) fun xsH w' hk hR => ?_
        have e15 : xsH 15 = .agg fv := hk 15 (by decide)
        have e16 : xsH 16 = .int .i64 a0 := hk 16 (by decide)
        have e17 : xsH 17 = .int .i64 a4 := hk 17 (by decide)
        have e18 : xsH 18 = .int .u8 (vn : Int) := hk 18 (by decide)
        refine ⟨#[.agg fv, .int .i64 a0, .int .i64 a4, .int .u8 (vn : Int)], ?_, ?_⟩
        · simp only [List.map_toArray, List.map_cons, List.map_nil]
          rw [putsH_tmp (i := 15) (by kernel_rfl) (by kernel_rfl), e15, putsH_tmp (i := 16) (by kernel_rfl) (by kernel_rfl), e16, putsH_tmp (i := 17) (by kernel_rfl) (by kernel_rfl), e17, putsH_tmp (i := 18) (by kernel_rfl) (by kernel_rfl), e18]
        · refine (callsIn_wide.2 (HCI.out w')).mono ?_
          rintro e w2 ⟨rfl, h2⟩
          exact ⟨_, rfl, rfl, h2⟩
      case r20 =>
        exact held_moveG free_wide (heldGd_some 14 56 false rfl (by kernel_rfl) (by kernel_rfl) (by kernel_rfl) (fun xsH w' hk => hk 14 (by decide))) BelowR.refl (.tmp 0) (.inl rfl) fun xsH w' _ _ => (putsH_old (by kernel_rfl)).trans rfl
      case r21 =>
        exact held_loadG free_wide (heldGd_some 14 56 false rfl (by kernel_rfl) (by kernel_rfl) (by kernel_rfl) (fun xsH w' hk => hk 14 (by decide))) BelowR.refl 23 (.tmp 7) rfl fun xsH w' hk hR => ⟨⟨b0, 0, none⟩, _, ((putsH_old (by kernel_rfl)).trans rfl), run_loadVar_row w' b0 _ _ _ (0, 0) _ ((OW.out.step hR).get (k := 0) rfl) Try.underlying23 rfl HSX.out, rfl⟩
      case r22 =>
        exact held_moveG free_wide (heldGd_some 14 56 false rfl (by kernel_rfl) (by kernel_rfl) (by kernel_rfl) (fun xsH w' hk => hk 14 (by decide))) BelowR.refl (.tmp 4) (.inl rfl) fun xsH w' _ _ => (putsH_old (by kernel_rfl)).trans rfl
      case r23 =>
        exact held_moveG free_wide (heldGd_some 14 56 false rfl (by kernel_rfl) (by kernel_rfl) (by kernel_rfl) (fun xsH w' hk => hk 14 (by decide))) BelowR.refl (.tmp 5) (.inl rfl) fun xsH w' _ _ => (putsH_old (by kernel_rfl)).trans rfl
      case r24 =>
        refine held_callG free_wide (heldGd_some 14 56 false rfl (by kernel_rfl) (by kernel_rfl) (by kernel_rfl) (fun xsH w' hk => hk 14 (by decide))) 23 _ _ rfl (enters_of Try.func23 (by kernel_rfl) rfl) fun xsH w' hk hR => ?_
        have e20 : xsH 20 = .int .i64 a0 := hk 20 (by decide)
        have e21 : xsH 21 = .agg fv := hk 21 (by decide)
        have e22 : xsH 22 = .int .i64 a4 := hk 22 (by decide)
        have e23 : xsH 23 = .int .u8 (vn : Int) := hk 23 (by decide)
        refine ⟨#[.int .i64 a0, .agg fv, .int .i64 a4, .int .u8 (vn : Int)], ?_, ?_⟩
        · simp only [List.map_toArray, List.map_cons, List.map_nil]
          rw [putsH_tmp (i := 20) (by kernel_rfl) (by kernel_rfl), e20, putsH_tmp (i := 21) (by kernel_rfl) (by kernel_rfl), e21, putsH_tmp (i := 22) (by kernel_rfl) (by kernel_rfl), e22, putsH_tmp (i := 23) (by kernel_rfl) (by kernel_rfl), e23]
        · refine (callsIn_wide.2 (HRC.out w')).mono ?_
          rintro e w2 ⟨rfl, h2⟩
          exact ⟨_, rfl, rfl, h2⟩
      case r25 =>
        exact held_runG free_wide (heldGd_some 14 56 false rfl (by kernel_rfl) (by kernel_rfl) (by kernel_rfl) (fun xsH w' hk => hk 14 (by decide))) (by rfl) BelowR.refl fun xsH w' hk hR => ⟨.bool false, run_binO (vx := .agg ch) (vy := .agg ch) rfl ((putsH_tmp (i := 19) (by kernel_rfl) (by kernel_rfl)).trans (show xsH 19 = .agg ch from hk 19 (by decide))) ((putsH_tmp (i := 24) (by kernel_rfl) (by kernel_rfl)).trans (show xsH 24 = .agg ch from hk 24 (by decide))) (NE3.out _ _ w'), rfl⟩
      case r26 =>
        refine held_run free_wide rfl (by rfl) BelowR.refl fun xsH w' hk hR => ⟨.bool false, ?_, rfl⟩
        refine run_pickF rfl ((putsH_tmp (i := 14) (by kernel_rfl) (by kernel_rfl)).trans (show xsH 14 = .bool false from hk 14 (by decide))) ?_
        exact (putsH_tmp (i := 25) (by kernel_rfl) (by kernel_rfl)).trans (show xsH 25 = .bool false from hk 25 (by decide))
      case rend =>
        intro xsH w' hv hR
        have h0 : xsH 0 = .agg fv := hv 0 (by omega)
        have h1 : xsH 1 = .agg fv := hv 1 (by omega)
        have h2 : xsH 2 = .bool false := hv 2 (by omega)
        have h3 : xsH 3 = .bool false := hv 3 (by omega)
        have h4 : xsH 4 = .agg fv := hv 4 (by omega)
        have h5 : xsH 5 = .int .i64 a2 := hv 5 (by omega)
        have h6 : xsH 6 = .int .i64 a3 := hv 6 (by omega)
        have h7 : xsH 7 = .agg fo := hv 7 (by omega)
        have h8 : xsH 8 = .agg fv := hv 8 (by omega)
        have h9 : xsH 9 = .int .i64 a2 := hv 9 (by omega)
        have h10 : xsH 10 = .int .i64 a3 := hv 10 (by omega)
        have h11 : xsH 11 = .agg fo := hv 11 (by omega)
        have h12 : xsH 12 = .bool false := hv 12 (by omega)
        have h13 : xsH 13 = .bool false := hv 13 (by omega)
        have h14 : xsH 14 = .bool false := hv 14 (by omega)
        have h15 : xsH 15 = .agg fv := hv 15 (by omega)
        have h16 : xsH 16 = .int .i64 a0 := hv 16 (by omega)
        have h17 : xsH 17 = .int .i64 a4 := hv 17 (by omega)
        have h18 : xsH 18 = .int .u8 (vn : Int) := hv 18 (by omega)
        have h19 : xsH 19 = .agg ch := hv 19 (by omega)
        have h20 : xsH 20 = .int .i64 a0 := hv 20 (by omega)
        have h21 : xsH 21 = .agg fv := hv 21 (by omega)
        have h22 : xsH 22 = .int .i64 a4 := hv 22 (by omega)
        have h23 : xsH 23 = .int .u8 (vn : Int) := hv 23 (by omega)
        have h24 : xsH 24 = .agg ch := hv 24 (by omega)
        have h25 : xsH 25 = .bool false := hv 25 (by omega)
        have h26 : xsH 26 = .bool false := hv 26 (by omega)
        simp only [List.take_succ_cons, List.take_zero, List.drop_succ_cons, List.drop_zero, putsH, Act.put, List.setIfInBounds_toArray, List.set_cons_succ, List.set_cons_zero, h0, h1, h2, h3, h4, h5, h6, h7, h8, h9, h10, h11, h12, h13, h14, h15, h16, h17, h18, h19, h20, h21, h22, h23, h24, h25, h26]
        have OW2 := Lib.hid (OW.out.step hR)
        clear hv hR OW OZ h0 h1 h2 h3 h4 h5 h6 h7 h8 h9 h10 h11 h12 h13 h14 h15 h16 h17 h18 h19 h20 h21 h22 h23 h24 h25 h26
        have OW := OW2
        clear OW2
        obtain ⟨GH, OZ⟩ := own_size OW HB0
        gi_wp2_with fail
        refine ⟨trivial, ?_⟩
        refine (callsIn_wide.2 (HWH.out _)).mono ?_
        rintro e W5 ⟨rfl, hbw⟩
        obtain ⟨g4, OW2, OZ2⟩ := own_call OW OZ hbw
        clear hbw OW OZ
        have OW := OW2
        have OZ := OZ2
        clear OW2 OZ2
        gi_wp2
        refine leaves_own [] _ (Nat.le_of_eq HB0.out) (by simpa using OW.out) ?_
        intro W' hO
        exact ⟨_, by simp [results, Try.results7, go_sem], rfl, hO.done HB0⟩
    · clear hin
      gi_wp2_with (first | (refine own_box 23 (.tmp 1) rfl rfl (.agg fv) rfl fv rfl OW OZ ?_; clear OW OZ; intro W OW OZ))
      refine ⟨trivial, ?_⟩
      refine (callsIn_wide.2 (anchor9_any _)).mono ?_
      rintro e W1 ⟨rfl, hbw⟩
      obtain ⟨g1, OW2, OZ2⟩ := own_call OW OZ hbw
      clear hbw OW OZ
      have OW := OW2
      have OZ := OZ2
      clear OW2 OZ2
      gi_wp2_with fail
      refine ⟨trivial, ?_⟩
      refine (callsIn_wide.2 (HCN.out _)).mono ?_
      rintro e W2 ⟨rfl, rfl⟩
      gi_wp2_with (first | (refine own_loadRow 0 23 (.tmp 7) rfl rfl rfl rfl _ Try.underlying23 rfl HSX.out OW ?_))
      refine ⟨trivial, ?_⟩
      refine (callsIn_wide.2 (HFL.out _)).mono ?_
      rintro e W3 ⟨rfl, hbw⟩
      obtain ⟨g2, OW2, OZ2⟩ := own_call OW OZ hbw
      clear hbw OW OZ
      have OW := OW2
      have OZ := OZ2
      clear OW2 OZ2
      gi_upto_region 9 with
        (first
          | (refine own_alloc 23 rfl rfl _ alRaw OW OZ ?_; clear OW OZ; intro W OW OZ)
          | (refine own_loadRow 0 23 (.tmp 7) rfl rfl rfl rfl _ Try.underlying23 rfl HSX.out OW ?_)
          | (refine own_storeRow 1 23 (.tmp 15) (.tmp 32) rfl rfl rfl rfl fv rfl HNF.out HF1.out HSF.out _ rfl OW OZ ?_; clear OW OZ; intro W OW OZ)
          | (refine own_storeRow 2 23 (.tmp 16) (.tmp 33) rfl rfl rfl rfl fv rfl HNX.out HX1.out HSX.out _ rfl OW OZ ?_; clear OW OZ; intro W OW OZ)
          | (refine own_storeRow 2 23 (.tmp 16) (.tmp 41) rfl rfl rfl rfl fv rfl HXF.out HF1.out HSF.out _ rfl OW OZ ?_; clear OW OZ; intro W OW OZ))
      refine wpIn_region_held 27 (atD [[], [], [0, 1], [2], [3], [3], [3], [3, 4, 5, 6], [3], [3], [3], [3, 8, 9, 10], [3, 7, 11], [3, 12], [13], [14], [14], [14], [14], [14, 15, 16, 17, 18], [14], [14], [14], [14], [14, 20, 21, 22, 23], [14, 19, 24], [14, 25]]) (atV [fun v _ => v = .agg fv, fun v _ => v = .agg fv, fun v _ => v = .bool false, fun v _ => v = .bool false, fun v _ => v = .agg fv, fun v _ => v = .int .i64 a2, fun v _ => v = .int .i64 a3, fun v _ => v = .agg fo, fun v _ => v = .agg fv, fun v _ => v = .int .i64 a2, fun v _ => v = .int .i64 a3, fun v _ => v = .agg fo, fun v _ => v = .bool false, fun v _ => v = .bool false, fun v _ => v = .bool false, fun v _ => v = .agg fv, fun v _ => v = .int .i64 a0, fun v _ => v = .int .i64 a4, fun v _ => v = .int .u8 (vn : Int), fun v _ => v = .agg ch, fun v _ => v = .int .i64 a0, fun v _ => v = .agg fv, fun v _ => v = .int .i64 a4, fun v _ => v = .int .u8 (vn : Int), fun v _ => v = .agg ch, fun v _ => v = .bool false, fun v _ => v = .bool false]) BelowR (by kernel_rfl) (by kernel_rfl) BelowR.trans (BelowR.drew _)
        (StV.atV (.const _ (.const _ (.const _ (.const _ (.const _ (.const _ (.const _ (.const _ (.const _ (.const _ (.const _ (.const _ (.const _ (.const _ (.const _ (.const _ (.const _ (.const _ (.const _ (.const _ (.const _ (.const _ (.const _ (.const _ (.const _ (.const _ (.const _ .nil))))))))))))))))))))))))))))
        ⟨?s0, ?s1, ?s2, ?s3, ?s4, ?s5, ?s6, ?s7, ?s8, ?s9, ?s10, ?s11, ?s12, ?s13, ?s14, ?s15, ?s16, ?s17, ?s18, ?s19, ?s20, ?s21, ?s22, ?s23, ?s24, ?s25, ?s26, trivial⟩ ?send
      case s0 =>
        exact held_load free_wide rfl BelowR.refl 23 (.tmp 15) rfl fun xsH w' hk hR => ⟨⟨g2, 0, none⟩, _, ((putsH_old (by kernel_rfl)).trans rfl), run_loadVar_row w' g2 _ _ _ (0, 0) _ ((OW.out.step hR).get (k := 1) rfl) Try.underlying23 rfl HSF.out, rfl⟩
      case s1 =>
        exact held_load free_wide rfl BelowR.refl 23 (.tmp 16) rfl fun xsH w' hk hR => ⟨⟨(g2 + 1), 0, none⟩, _, ((putsH_old (by kernel_rfl)).trans rfl), run_loadVar_row w' (g2 + 1) _ _ _ (0, 0) _ ((OW.out.step hR).get (k := 2) rfl) Try.underlying23 rfl HSF.out, rfl⟩
      case s2 =>
        exact held_run free_wide rfl (by rfl) BelowR.refl fun xsH w' hk hR => ⟨.bool false, run_binO (vx := .agg fv) (vy := .agg fv) rfl ((putsH_tmp (i := 0) (by kernel_rfl) (by kernel_rfl)).trans (show xsH 0 = .agg fv from hk 0 (by decide))) ((putsH_tmp (i := 1) (by kernel_rfl) (by kernel_rfl)).trans (show xsH 1 = .agg fv from hk 1 (by decide))) (NE1.out _ _ w'), rfl⟩
      case s3 =>
        exact held_move free_wide rfl BelowR.refl (.tmp 44) (.inl rfl) fun xsH w' hk _ => by
          have h : atV _ 2 (xsH 2) w' := hk 2 (by decide)
          rw [putsH_tmp (i := 2) (by kernel_rfl) (by kernel_rfl)]
          exact h
      case s4 =>
        exact held_loadG free_wide (heldGd_some 3 45 false rfl (by kernel_rfl) (by kernel_rfl) (by kernel_rfl) (fun xsH w' hk => hk 3 (by decide))) BelowR.refl 23 (.tmp 7) rfl fun xsH w' hk hR => ⟨⟨b0, 0, none⟩, _, ((putsH_old (by kernel_rfl)).trans rfl), run_loadVar_row w' b0 _ _ _ (0, 0) _ ((OW.out.step hR).get (k := 0) rfl) Try.underlying23 rfl HSX.out, rfl⟩
      case s5 =>
        exact held_moveG free_wide (heldGd_some 3 45 false rfl (by kernel_rfl) (by kernel_rfl) (by kernel_rfl) (fun xsH w' hk => hk 3 (by decide))) BelowR.refl (.tmp 2) (.inl rfl) fun xsH w' _ _ => (putsH_old (by kernel_rfl)).trans rfl
      case s6 =>
        exact held_moveG free_wide (heldGd_some 3 45 false rfl (by kernel_rfl) (by kernel_rfl) (by kernel_rfl) (fun xsH w' hk => hk 3 (by decide))) BelowR.refl (.tmp 3) (.inl rfl) fun xsH w' _ _ => (putsH_old (by kernel_rfl)).trans rfl
      case s7 =>
        refine held_callG free_wide (heldGd_some 3 45 false rfl (by kernel_rfl) (by kernel_rfl) (by kernel_rfl) (fun xsH w' hk => hk 3 (by decide))) 22 _ _ rfl (enters_of Try.func22 (by kernel_rfl) rfl) fun xsH w' hk hR => ?_
        have e4 : xsH 4 = .agg fv := hk 4 (by decide)
        have e5 : xsH 5 = .int .i64 a2 := hk 5 (by decide)
        have e6 : xsH 6 = .int .i64 a3 := hk 6 (by decide)
        refine ⟨#[.agg fv, .int .i64 a2, .int .i64 a3], ?_, ?_⟩
        · simp only [List.map_toArray, List.map_cons, List.map_nil]
          rw [putsH_tmp (i := 4) (by kernel_rfl) (by kernel_rfl), e4, putsH_tmp (i := 5) (by kernel_rfl) (by kernel_rfl), e5, putsH_tmp (i := 6) (by kernel_rfl) (by kernel_rfl), e6]
        · refine (callsIn_wide.2 (HFO.out w')).mono ?_
          rintro e w2 ⟨rfl, h2⟩
          exact ⟨_, rfl, rfl, h2⟩
      case s8 =>
        exact held_loadG free_wide (heldGd_some 3 45 false rfl (by kernel_rfl) (by kernel_rfl) (by kernel_rfl) (fun xsH w' hk => hk 3 (by decide))) BelowR.refl 23 (.tmp 7) rfl fun xsH w' hk hR => ⟨⟨b0, 0, none⟩, _, ((putsH_old (by kernel_rfl)).trans rfl), run_loadVar_row w' b0 _ _ _ (0, 0) _ ((OW.out.step hR).get (k := 0) rfl) Try.underlying23 rfl HSX.out, rfl⟩
      case s9 =>
        exact held_moveG free_wide (heldGd_some 3 45 false rfl (by kernel_rfl) (by kernel_rfl) (by kernel_rfl) (fun xsH w' hk => hk 3 (by decide))) BelowR.refl (.tmp 2) (.inl rfl) fun xsH w' _ _ => (putsH_old (by kernel_rfl)).trans rfl
      case s10 =>
        exact held_moveG free_wide (heldGd_some 3 45 false rfl (by kernel_rfl) (by kernel_rfl) (by kernel_rfl) (fun xsH w' hk => hk 3 (by decide))) BelowR.refl (.tmp 3) (.inl rfl) fun xsH w' _ _ => (putsH_old (by kernel_rfl)).trans rfl
      case s11 =>
        refine held_callG free_wide (heldGd_some 3 45 false rfl (by kernel_rfl) (by kernel_rfl) (by kernel_rfl) (fun xsH w' hk => hk 3 (by decide))) 20 _ _ rfl (enters_of Try.func20 (by kernel_rfl) rfl) fun xsH w' hk hR => ?_
        have e8 : xsH 8 = .agg fv := hk 8 (by decide)
        have e9 : xsH 9 = .int .i64 a2 := hk 9 (by decide)
        have e10 : xsH 10 = .int .i64 a3 := hk 10 (by decide)
        refine ⟨#[.agg fv, .int .i64 a2, .int .i64 a3], ?_, ?_⟩
        · simp only [List.map_toArray, List.map_cons, List.map_nil]
          rw [putsH_tmp (i := 8) (by kernel_rfl) (by kernel_rfl), e8, putsH_tmp (i := 9) (by kernel_rfl) (by kernel_rfl), e9, putsH_tmp (i := 10) (by kernel_rfl) (by kernel_rfl), e10]
        · refine (callsIn_wide.2 (HRF.out w')).mono ?_
          rintro e w2 ⟨rfl, h2⟩
          exact ⟨_, rfl, rfl, h2⟩
      case s12 =>
        exact held_runG free_wide (heldGd_some 3 45 false rfl (by kernel_rfl) (by kernel_rfl) (by kernel_rfl) (fun xsH w' hk => hk 3 (by decide))) (by rfl) BelowR.refl fun xsH w' hk hR => ⟨.bool false, run_binO (vx := .agg fo) (vy := .agg fo) rfl ((putsH_tmp (i := 7) (by kernel_rfl) (by kernel_rfl)).trans (show xsH 7 = .agg fo from hk 7 (by decide))) ((putsH_tmp (i := 11) (by kernel_rfl) (by kernel_rfl)).trans (show xsH 11 = .agg fo from hk 11 (by decide))) (NE2.out _ _ w'), rfl⟩
      case s13 =>
        refine held_run free_wide rfl (by rfl) BelowR.refl fun xsH w' hk hR => ⟨.bool false, ?_, rfl⟩
        refine run_pickF rfl ((putsH_tmp (i := 3) (by kernel_rfl) (by kernel_rfl)).trans (show xsH 3 = .bool false from hk 3 (by decide))) ?_
        exact (putsH_tmp (i := 12) (by kernel_rfl) (by kernel_rfl)).trans (show xsH 12 = .bool false from hk 12 (by decide))
      case s14 =>
        exact held_move free_wide rfl BelowR.refl (.tmp 55) (.inl rfl) fun xsH w' hk _ => by
          have h : atV _ 13 (xsH 13) w' := hk 13 (by decide)
          rw [putsH_tmp (i := 13) (by kernel_rfl) (by kernel_rfl)]
          exact h
      case s15 =>
        exact held_loadG free_wide (heldGd_some 14 56 false rfl (by kernel_rfl) (by kernel_rfl) (by kernel_rfl) (fun xsH w' hk => hk 14 (by decide))) BelowR.refl 23 (.tmp 7) rfl fun xsH w' hk hR => ⟨⟨b0, 0, none⟩, _, ((putsH_old (by kernel_rfl)).trans rfl), run_loadVar_row w' b0 _ _ _ (0, 0) _ ((OW.out.step hR).get (k := 0) rfl) Try.underlying23 rfl HSX.out, rfl⟩
      case s16 =>
        exact held_moveG free_wide (heldGd_some 14 56 false rfl (by kernel_rfl) (by kernel_rfl) (by kernel_rfl) (fun xsH w' hk => hk 14 (by decide))) BelowR.refl (.tmp 0) (.inl rfl) fun xsH w' _ _ => (putsH_old (by kernel_rfl)).trans rfl
      case s17 =>
        exact held_moveG free_wide (heldGd_some 14 56 false rfl (by kernel_rfl) (by kernel_rfl) (by kernel_rfl) (fun xsH w' hk => hk 14 (by decide))) BelowR.refl (.tmp 4) (.inl rfl) fun xsH w' _ _ => (putsH_old (by kernel_rfl)).trans rfl
      case s18 =>
        exact held_moveG free_wide (heldGd_some 14 56 false rfl (by kernel_rfl) (by kernel_rfl) (by kernel_rfl) (fun xsH w' hk => hk 14 (by decide))) BelowR.refl (.tmp 5) (.inl rfl) fun xsH w' _ _ => (putsH_old (by kernel_rfl)).trans rfl
      case s19 =>
        refine held_callG free_wide (heldGd_some 14 56 false rfl (by kernel_rfl) (by kernel_rfl) (by kernel_rfl) (fun xsH w' hk => hk 14 (by decide))) 18 _ _ rfl (enters_of Try.func18 (by kernel_rfl) rfl) fun xsH w' hk hR => ?_
        have e15 : xsH 15 = .agg fv := hk 15 (by decide)
        have e16 : xsH 16 = .int .i64 a0 := hk 16 (by decide)
        have e17 : xsH 17 = .int .i64 a4 := hk 17 (by decide)
        have e18 : xsH 18 = .int .u8 (vn : Int) := hk 18 (by decide)
        refine ⟨#[.agg fv, .int .i64 a0, .int .i64 a4, .int .u8 (vn : Int)], ?_, ?_⟩
        · simp only [List.map_toArray, List.map_cons, List.map_nil]
          rw [putsH_tmp (i := 15) (by kernel_rfl) (by kernel_rfl), e15, putsH_tmp (i := 16) (by kernel_rfl) (by kernel_rfl), e16, putsH_tmp (i := 17) (by kernel_rfl) (by kernel_rfl), e17, putsH_tmp (i := 18) (by kernel_rfl) (by kernel_rfl), e18]
        · refine (callsIn_wide.2 (HCI.out w')).mono ?_
          rintro e w2 ⟨rfl, h2⟩
          exact ⟨_, rfl, rfl, h2⟩
      case s20 =>
        exact held_moveG free_wide (heldGd_some 14 56 false rfl (by kernel_rfl) (by kernel_rfl) (by kernel_rfl) (fun xsH w' hk => hk 14 (by decide))) BelowR.refl (.tmp 0) (.inl rfl) fun xsH w' _ _ => (putsH_old (by kernel_rfl)).trans rfl
      case s21 =>
        exact held_loadG free_wide (heldGd_some 14 56 false rfl (by kernel_rfl) (by kernel_rfl) (by kernel_rfl) (fun xsH w' hk => hk 14 (by decide))) BelowR.refl 23 (.tmp 7) rfl fun xsH w' hk hR => ⟨⟨b0, 0, none⟩, _, ((putsH_old (by kernel_rfl)).trans rfl), run_loadVar_row w' b0 _ _ _ (0, 0) _ ((OW.out.step hR).get (k := 0) rfl) Try.underlying23 rfl HSX.out, rfl⟩
      case s22 =>
        exact held_moveG free_wide (heldGd_some 14 56 false rfl (by kernel_rfl) (by kernel_rfl) (by kernel_rfl) (fun xsH w' hk => hk 14 (by decide))) BelowR.refl (.tmp 4) (.inl rfl) fun xsH w' _ _ => (putsH_old (by kernel_rfl)).trans rfl
      case s23 =>
        exact held_moveG free_wide (heldGd_some 14 56 false rfl (by kernel_rfl) (by kernel_rfl) (by kernel_rfl) (fun xsH w' hk => hk 14 (by decide))) BelowR.refl (.tmp 5) (.inl rfl) fun xsH w' _ _ => (putsH_old (by kernel_rfl)).trans rfl
      case s24 =>
        refine held_callG free_wide (heldGd_some 14 56 false rfl (by kernel_rfl) (by kernel_rfl) (by kernel_rfl) (fun xsH w' hk => hk 14 (by decide))) 23 _ _ rfl (enters_of Try.func23 (by kernel_rfl) rfl) fun xsH w' hk hR => ?_
        have e20 : xsH 20 = .int .i64 a0 := hk 20 (by decide)
        have e21 : xsH 21 = .agg fv := hk 21 (by decide)
        have e22 : xsH 22 = .int .i64 a4 := hk 22 (by decide)
        have e23 : xsH 23 = .int .u8 (vn : Int) := hk 23 (by decide)
        refine ⟨#[.int .i64 a0, .agg fv, .int .i64 a4, .int .u8 (vn : Int)], ?_, ?_⟩
        · simp only [List.map_toArray, List.map_cons, List.map_nil]
          rw [putsH_tmp (i := 20) (by kernel_rfl) (by kernel_rfl), e20, putsH_tmp (i := 21) (by kernel_rfl) (by kernel_rfl), e21, putsH_tmp (i := 22) (by kernel_rfl) (by kernel_rfl), e22, putsH_tmp (i := 23) (by kernel_rfl) (by kernel_rfl), e23]
        · refine (callsIn_wide.2 (HRC.out w')).mono ?_
          rintro e w2 ⟨rfl, h2⟩
          exact ⟨_, rfl, rfl, h2⟩
      case s25 =>
        exact held_runG free_wide (heldGd_some 14 56 false rfl (by kernel_rfl) (by kernel_rfl) (by kernel_rfl) (fun xsH w' hk => hk 14 (by decide))) (by rfl) BelowR.refl fun xsH w' hk hR => ⟨.bool false, run_binO (vx := .agg ch) (vy := .agg ch) rfl ((putsH_tmp (i := 19) (by kernel_rfl) (by kernel_rfl)).trans (show xsH 19 = .agg ch from hk 19 (by decide))) ((putsH_tmp (i := 24) (by kernel_rfl) (by kernel_rfl)).trans (show xsH 24 = .agg ch from hk 24 (by decide))) (NE3.out _ _ w'), rfl⟩
      case s26 =>
        refine held_run free_wide rfl (by rfl) BelowR.refl fun xsH w' hk hR => ⟨.bool false, ?_, rfl⟩
        refine run_pickF rfl ((putsH_tmp (i := 14) (by kernel_rfl) (by kernel_rfl)).trans (show xsH 14 = .bool false from hk 14 (by decide))) ?_
        exact (putsH_tmp (i := 25) (by kernel_rfl) (by kernel_rfl)).trans (show xsH 25 = .bool false from hk 25 (by decide))
      case send =>
        intro xsH w' hv hR
        have h0 : xsH 0 = .agg fv := hv 0 (by omega)
        have h1 : xsH 1 = .agg fv := hv 1 (by omega)
        have h2 : xsH 2 = .bool false := hv 2 (by omega)
        have h3 : xsH 3 = .bool false := hv 3 (by omega)
        have h4 : xsH 4 = .agg fv := hv 4 (by omega)
        have h5 : xsH 5 = .int .i64 a2 := hv 5 (by omega)
        have h6 : xsH 6 = .int .i64 a3 := hv 6 (by omega)
        have h7 : xsH 7 = .agg fo := hv 7 (by omega)
        have h8 : xsH 8 = .agg fv := hv 8 (by omega)
        have h9 : xsH 9 = .int .i64 a2 := hv 9 (by omega)
        have h10 : xsH 10 = .int .i64 a3 := hv 10 (by omega)
        have h11 : xsH 11 = .agg fo := hv 11 (by omega)
        have h12 : xsH 12 = .bool false := hv 12 (by omega)
        have h13 : xsH 13 = .bool false := hv 13 (by omega)
        have h14 : xsH 14 = .bool false := hv 14 (by omega)
        have h15 : xsH 15 = .agg fv := hv 15 (by omega)
        have h16 : xsH 16 = .int .i64 a0 := hv 16 (by omega)
        have h17 : xsH 17 = .int .i64 a4 := hv 17 (by omega)
        have h18 : xsH 18 = .int .u8 (vn : Int) := hv 18 (by omega)
        have h19 : xsH 19 = .agg ch := hv 19 (by omega)
        have h20 : xsH 20 = .int .i64 a0 := hv 20 (by omega)
        have h21 : xsH 21 = .agg fv := hv 21 (by omega)
        have h22 : xsH 22 = .int .i64 a4 := hv 22 (by omega)
        have h23 : xsH 23 = .int .u8 (vn : Int) := hv 23 (by omega)
        have h24 : xsH 24 = .agg ch := hv 24 (by omega)
        have h25 : xsH 25 = .bool false := hv 25 (by omega)
        have h26 : xsH 26 = .bool false := hv 26 (by omega)
        simp only [List.take_succ_cons, List.take_zero, List.drop_succ_cons, List.drop_zero, putsH, Act.put, List.setIfInBounds_toArray, List.set_cons_succ, List.set_cons_zero, h0, h1, h2, h3, h4, h5, h6, h7, h8, h9, h10, h11, h12, h13, h14, h15, h16, h17, h18, h19, h20, h21, h22, h23, h24, h25, h26]
        have OW2 := Lib.hid (OW.out.step hR)
        clear hv hR OW OZ h0 h1 h2 h3 h4 h5 h6 h7 h8 h9 h10 h11 h12 h13 h14 h15 h16 h17 h18 h19 h20 h21 h22 h23 h24 h25 h26
        have OW := OW2
        clear OW2
        obtain ⟨GH, OZ⟩ := own_size OW HB0
        gi_wp2_with fail
        refine ⟨trivial, ?_⟩
        refine (callsIn_wide.2 (HWH.out _)).mono ?_
        rintro e W5 ⟨rfl, hbw⟩
        obtain ⟨g4, OW2, OZ2⟩ := own_call OW OZ hbw
        clear hbw OW OZ
        have OW := OW2
        have OZ := OZ2
        clear OW2 OZ2
        gi_wp2
        refine leaves_own [] _ (Nat.le_of_eq HB0.out) (by simpa using OW.out) ?_
        intro W' hO
        exact ⟨_, by simp [results, Try.results7, go_sem], rfl, hO.done HB0⟩
end Go.Proofs.Ythfncfcajjecbaa
