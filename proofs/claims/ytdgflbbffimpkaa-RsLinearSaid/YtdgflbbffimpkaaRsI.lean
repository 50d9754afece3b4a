/- rs: the laws' 'coded', 'word', 'verdict', and the code's generator: walks. -/
import Derived.Test.YtdgflbbffimpkaaRsF
namespace Go.Proofs.Ytdgflbbffimpkaa
open Go.RowKit Go.Shelf
attribute [local go_sem] Oper.semAt_some
set_option linter.unusedVariables false
set_option linter.unusedSimpArgs false

section
variable {P : Program} {w : World} {o : Oper} {ρ : Operand → Value}
theorem run_indO {T : TypeId} {x i : Operand} {vx vi v : Value} (ho : o.op = .index T x i) (hx : ρ x = vx) (hi : ρ i = vi) (hr : (Instr.index T vx vi).run P w = .ok v w) : (execOp ρ o).run P w = .ok (.value v) w := by
  subst hx hi
  unfold execOp
  simp only [ho, Sem.run_bind, hr, Sem.run_pure, Result.andThen_ok]
theorem run_part_u8 {E : TypeId} (ht : P.underlying E = some (.int .u8)) (xs : List UInt8) (k : Nat) (hk : k < xs.length) : (part E (rawV xs) k).run P w = .ok (.int .u8 ((xs.getD k 0).toNat : Int)) w := by
  have ha : (isAgg E).run P w = .ok false w := by simp [isAgg, run_underlying ht, Sem.run_bind]
  have hg := rawV_get xs hk
  simp [part, ha, hg, Sem.run_bind]
end
theorem ixV4 (xs : List UInt8) (k : Nat) (hl : xs.length = 4) (hk : k < 4) (W : World) : (Instr.index 22 (.agg (rawV xs)) (.int .i64 (k : Int))).run Try.prog W = .ok (.int .u8 ((xs.getD k 0).toNat : Int)) W := by
  have hz : (sizeOf 5).run Try.prog W = .ok 1 W := by kernel_rfl
  have hp := run_part_u8 (P := Try.prog) (w := W) Try.underlying5 xs k (by omega)
  have hlt : (0 : Int) ≤ (k : Int) ∧ (k : Int) < (4 : Nat) := ⟨by omega, by omega⟩
  simp only [Instr.index, asIntOf, Sem.run_bind, Sem.run_pure, Result.andThen_ok, run_underlying Try.underlying22, if_pos hlt, hz, Int.toNat_natCast, Nat.mul_one, hp]
theorem ixV32 (xs : List UInt8) (k : Nat) (hl : xs.length = 32) (hk : k < 32) (W : World) : (Instr.index 32 (.agg (rawV xs)) (.int .i64 (k : Int))).run Try.prog W = .ok (.int .u8 ((xs.getD k 0).toNat : Int)) W := by
  have hz : (sizeOf 5).run Try.prog W = .ok 1 W := by kernel_rfl
  have hp := run_part_u8 (P := Try.prog) (w := W) Try.underlying5 xs k (by omega)
  have hlt : (0 : Int) ≤ (k : Int) ∧ (k : Int) < (32 : Nat) := ⟨by omega, by omega⟩
  simp only [Instr.index, asIntOf, Sem.run_bind, Sem.run_pure, Result.andThen_ok, run_underlying Try.underlying32, if_pos hlt, hz, Int.toNat_natCast, Nat.mul_one, hp]

/-- A code word's stored symbols. -/
def wordL (d v : List UInt8) : List UInt8 := chkL d v ++ d
theorem wordL_len (d v : List UInt8) (hd : d.length = 32) : (wordL d v).length = 36 := by unfold wordL; rw [List.length_append, chkL_len, hd]
theorem decL_len (d v : List UInt8) (hd : d.length = 36) : (decL d v).length = 32 := by
  unfold decL
  cases ((locF (co (synL d v))).kind : Int) == 1
  · rw [cond_false, List.length_drop, hd]
  · rw [cond_true, List.length_drop, List.length_set, hd]

set_option maxRecDepth 100000 in
set_option maxHeartbeats 1000000 in
theorem word_any (cb fb : Nat) (d v : List UInt8) (hd : d.length = 32) (hv : v.length = 3) (w : World) (hC : CodeAt w cb fb) : Calls Try.prog 16 #[.pointer (some ⟨cb, 0, none⟩), .agg (rawV d), .agg (rawV v)] w fun e w' => e = .returned (.agg (rawV (wordL d v))) ∧ Below w.heap.size w w' := by
  obtain ⟨b0, hb0⟩ : ∃ b0, w.heap.size = b0 := ⟨_, rfl⟩
  have HB0 := Lib.hid hb0
  have OW := Lib.hid (Own.start b0 w)
  have OZ := Lib.hid (And.intro hb0 (Nat.le_refl b0))
  clear hb0
  have HD := Lib.hid hd
  have HV := Lib.hid hv
  have HCODE := Lib.hid (fun (L : Objs) (V : World) (h : Own b0 w L V) => (show CodeAt V cb fb from hC.below (by rw [HB0.out]; exact h.below (Nat.le_of_eq HB0.out.symm))))
  clear hC hd hv
  refine (callsIn_wide (n := 6)).1 ?_
  refine callsIn_of_wp_marks Try.func16 rfl trivial ?_ rfl
  simp only [Try.ntmps16, List.size_toArray, List.length_cons, List.length_nil, Nat.reduceAdd, Nat.reduceSub, Array.replicate_succ, Array.replicate_zero, List.push_toArray, List.append_toArray, List.nil_append, List.cons_append]
  gi_upto_region 2 with (first | (refine own_boxV 4 32 (.tmp 1) rfl rfl rfl (.agg (rawV d)) rfl (rawV d) rfl OW OZ ?_; clear OW OZ; intro W g1 OW OZ) | (refine own_boxV 5 24 (.tmp 2) rfl rfl rfl (.agg (rawV v)) rfl (rawV v) rfl OW OZ ?_; clear OW OZ; intro W g2 OW OZ) | (refine own_allocV 6 23 rfl rfl rfl (rawV (List.replicate 36 0)) al36 OW OZ ?_; clear OW OZ; intro W g3 OW OZ) | (refine own_allocV 7 23 rfl rfl rfl (rawV (List.replicate 36 0)) al36 OW OZ ?_; clear OW OZ; intro W g4 OW OZ))
  refine wpIn_region_heldL 5 (atD [[], [], [], [0, 1, 2], []]) (atV [fun vH _ => vH = .pointer (some ⟨cb, 0, none⟩), fun vH _ => vH = .agg (rawV d), fun vH _ => vH = .agg (rawV v), fun vH _ => vH = .agg (rawV (chkL d v)), fun vH _ => vH = .int .i64 0]) BelowR (by kernel_rfl) BelowR.trans (BelowR.refl _)
    (StV.atV (.const _ (.const _ (.const _ (.const _ (.const _ .nil))))))
    ⟨?o5x0, ?o5x1, ?o5x2, ?o5x3, ?o5x4, trivial⟩ ?_
  case o5x0 =>
    exact held_move free_wide rfl BelowR.refl (.tmp 0) (.inl rfl) fun xH w' kH _ => (pO (by kernel_rfl) rfl)
  case o5x1 =>
    exact held_load free_wide rfl BelowR.refl 32 (.tmp 4) rfl fun xH w' kH hR => ⟨_, _, (pO (by kernel_rfl) rfl), ldR OW hR 0 rfl Try.underlying32 rfl (arJ32 (show (d).length = 32 from HD.out)), rfl⟩
  case o5x2 =>
    exact held_load free_wide rfl BelowR.refl 24 (.tmp 5) rfl fun xH w' kH hR => ⟨_, _, (pO (by kernel_rfl) rfl), ldR OW hR 1 rfl Try.underlying24 rfl (arJ3 (show (v).length = 3 from HV.out)), rfl⟩
  case o5x3 =>
    refine held_call free_wide rfl 18 _ _ rfl (enters_of Try.func18 (by kernel_rfl) rfl) fun xH w' kH hR => ⟨_, mapE3 (pT 0 (by kernel_rfl) (by kernel_rfl) (kH 0 (by decide))) (pT 1 (by kernel_rfl) (by kernel_rfl) (kH 1 (by decide))) (pT 2 (by kernel_rfl) (by kernel_rfl) (kH 2 (by decide))), ?_⟩
    refine (callsIn_wide.2 (checks_any cb fb d v (HD.out) (HV.out) _ (HCODE.out _ _ (OW.out.step hR)))).mono ?_
    rintro e w2 ⟨rfl, h2⟩
    exact ⟨_, rfl, rfl, h2⟩
  case o5x4 =>
    exact held_move free_wide rfl BelowR.refl (.const (.int .i64 0)) (.inl rfl) fun xH w' kH _ => rfl
  intro xH w' hv hR
  have h0 : xH 0 = _ := hv 0 (by omega)
  have h1 : xH 1 = _ := hv 1 (by omega)
  have h2 : xH 2 = _ := hv 2 (by omega)
  have h3 : xH 3 = _ := hv 3 (by omega)
  have h4 : xH 4 = _ := hv 4 (by omega)
  simp only [List.take_succ_cons, List.take_zero, List.drop_succ_cons, List.drop_zero, putsH, Act.put, List.setIfInBounds_toArray, List.set_cons_succ, List.set_cons_zero, h0, h1, h2, h3, h4]
  have OW2 := Lib.hid (OW.out.step hR)
  clear hv hR OW OZ h0 h1 h2 h3 h4
  have OW := OW2
  clear OW2
  obtain ⟨g6, OZ⟩ := own_size OW HB0
  gi_wp2
  gi_loopw [16] (fun z16 wr => ∃ k : Nat, k ≤ 4 ∧ z16 = .int .i64 (k : Int) ∧ Own b0 w [(b0, Obj.cells (rawV d) 32 (0, 0)), (g1, Obj.cells (rawV v) 24 (0, 0)), (g2, Obj.cells (rawV (List.replicate 36 0)) 23 (0, 0)), (g3, Obj.cells (rawV (upTo 36 (wordL d v) k)) 23 (0, 0))] wr) (fun z16 _ => 4 - (intOf z16).toNat)
  case atStart => exact ⟨0, by omega, rfl, (by rw [upTo_zero]; exact OW.out)⟩
  case round =>
    obtain ⟨k, hk8, rfl, hO⟩ := hrel
    clear OW OZ
    have OW := Lib.hid hO
    obtain ⟨g7, OZ⟩ := own_size OW HB0
    clear hO
    gi_upto_region 3 with fail
    obtain ⟨eo90, qeo90⟩ : ∃ e, (decide ((k : Int) < 4)) = e := ⟨_, rfl⟩
    refine wpIn_region_heldL 1 (atD [[]]) (atV [fun vH _ => vH = .bool eo90]) BelowR (by kernel_rfl) BelowR.trans (BelowR.refl _)
      (StV.atV (.const _ .nil))
      ⟨?o9x0, trivial⟩ ?_
    case o9x0 =>
      exact held_run free_wide rfl (by rfl) BelowR.refl fun xH w' kH hR => ⟨_, run_binO rfl (pO (by kernel_rfl) rfl) rfl bin_lss, (congrArg Value.bool qeo90)⟩
    intro xH w' hv hR
    subst qeo90
    have h0 : xH 0 = _ := hv 0 (by omega)
    simp only [List.take_succ_cons, List.take_zero, List.drop_succ_cons, List.drop_zero, putsH, Act.put, List.setIfInBounds_toArray, List.set_cons_succ, List.set_cons_zero, h0]
    have OW2 := Lib.hid (OW.out.step hR)
    clear hv hR OW OZ h0
    have OW := OW2
    clear OW2
    obtain ⟨g10, OZ⟩ := own_size OW HB0
    cases hB11 : (decide ((k : Int) < 4))
    case true =>
      have dhB11 := of_decide_eq_true hB11
      gi_upto_region 4 with fail
      refine wpIn_region_heldL 4 (atD [[], [], [0], [1]]) (atV [fun vH _ => vH = .int .i64 (k : Int), fun vH _ => vH = .int .u8 (((chkL d v).getD k 0).toNat : Int), fun vH _ => vH = .int .i64 (k : Int), fun vH _ => vH = .int .u8 (((chkL d v).getD k 0).toNat : Int)]) BelowR (by kernel_rfl) BelowR.trans (BelowR.refl _)
        (StV.atV (.const _ (.const _ (.const _ (.const _ .nil)))))
        ⟨?o12x0, ?o12x1, ?o12x2, ?o12x3, trivial⟩ ?_
      case o12x0 =>
        exact held_move free_wide rfl BelowR.refl (.tmp 16) (.inl rfl) fun xH w' kH _ => (pO (by kernel_rfl) rfl)
      case o12x1 =>
        exact held_run free_wide rfl (by rfl) BelowR.refl fun xH w' kH hR => ⟨_, run_indO (vx := .agg (rawV (chkL d v))) (vi := .int .i64 (k : Int)) rfl (pO (by kernel_rfl) rfl) (pO (by kernel_rfl) rfl) (ixV4 _ k (chkL_len d v) (by omega) _), rfl⟩
      case o12x2 =>
        exact held_move free_wide rfl BelowR.refl (.tmp 18) (.inr rfl) fun xH w' kH _ => (pT 0 (by kernel_rfl) (by kernel_rfl) (kH 0 (by decide)))
      case o12x3 =>
        exact held_move free_wide rfl BelowR.refl (.tmp 19) (.inr rfl) fun xH w' kH _ => (pT 1 (by kernel_rfl) (by kernel_rfl) (kH 1 (by decide)))
      intro xH w' hv hR
      have h0 : xH 0 = _ := hv 0 (by omega)
      have h1 : xH 1 = _ := hv 1 (by omega)
      have h2 : xH 2 = _ := hv 2 (by omega)
      have h3 : xH 3 = _ := hv 3 (by omega)
      simp only [List.take_succ_cons, List.take_zero, List.drop_succ_cons, List.drop_zero, putsH, Act.put, List.setIfInBounds_toArray, List.set_cons_succ, List.set_cons_zero, h0, h1, h2, h3]
      have OW2 := Lib.hid (OW.out.step hR)
      clear hv hR OW OZ h0 h1 h2 h3
      have OW := OW2
      clear OW2
      obtain ⟨g13, OZ⟩ := own_size OW HB0
      gi_wp2_with (first | (refine own_valV 22 rfl rfl rfl (.pointer (some ⟨g3, k, none⟩)) (run_idxO (vx := .pointer (some ⟨g3, 0, none⟩)) (vi := .int .i64 (k : Int)) rfl rfl rfl (arX36 _ k (by omega) _)) ?_) | (refine own_store 3 5 (.tmp 22) (.tmp 21) rfl rfl rfl rfl (.int .u8 (((chkL d v).getD k 0).toNat : Int)) rfl (rawV ((upTo 36 (wordL d v) k).set k ((chkL d v).getD k 0))) (rawV_set _ _ ((chkL d v).getD k 0)) (by rw [rawV_size, (show ((upTo 36 (wordL d v) k)).length = 36 by simp only [chkL_len, upTo_len, List.length_set, HD.out, HV.out])]; omega) rfl szU8 _ rfl OW OZ ?_; clear OW OZ; intro W OW OZ) | (refine own_valV 23 rfl rfl rfl (.int .i64 ((k : Int) + 1)) (run_binO (vx := .int .i64 (k : Int)) (vy := .int .i64 1) rfl rfl rfl (bin_add_in (by omega) (by omega))) ?_))
      go_roundw
      case rel => exact ⟨k + 1, by omega, by go_num, (by rw [← upTo_set, show co (wordL d v) k = (chkL d v).getD k 0 from co_left (by rw [chkL_len]; omega)]; exact OW.out)⟩
      case measure => (simp [intOf] <;> omega)
    have dhB11 := of_decide_eq_false hB11
    obtain rfl : k = 4 := by omega
    gi_upto_region 7 with fail
    refine wpIn_region_heldL 2 (atD [[], []]) (atV [fun vH _ => vH = .agg (rawV d), fun vH _ => vH = .int .i64 0]) BelowR (by kernel_rfl) BelowR.trans (BelowR.refl _)
      (StV.atV (.const _ (.const _ .nil)))
      ⟨?o14x0, ?o14x1, trivial⟩ ?_
    case o14x0 =>
      exact held_load free_wide rfl BelowR.refl 32 (.tmp 4) rfl fun xH w' kH hR => ⟨_, _, (pO (by kernel_rfl) rfl), ldR OW hR 0 rfl Try.underlying32 rfl (arJ32 (show (d).length = 32 from HD.out)), rfl⟩
    case o14x1 =>
      exact held_move free_wide rfl BelowR.refl (.const (.int .i64 0)) (.inl rfl) fun xH w' kH _ => rfl
    intro xH w' hv hR
    have h0 : xH 0 = _ := hv 0 (by omega)
    have h1 : xH 1 = _ := hv 1 (by omega)
    simp only [List.take_succ_cons, List.take_zero, List.drop_succ_cons, List.drop_zero, putsH, Act.put, List.setIfInBounds_toArray, List.set_cons_succ, List.set_cons_zero, h0, h1]
    have OW2 := Lib.hid (OW.out.step hR)
    clear hv hR OW OZ h0 h1
    have OW := OW2
    clear OW2
    obtain ⟨g15, OZ⟩ := own_size OW HB0
    gi_wp2
    gi_loopw [25] (fun z25 wr => ∃ j : Nat, j ≤ 32 ∧ z25 = .int .i64 (j : Int) ∧ Own b0 w [(b0, Obj.cells (rawV d) 32 (0, 0)), (g1, Obj.cells (rawV v) 24 (0, 0)), (g2, Obj.cells (rawV (List.replicate 36 0)) 23 (0, 0)), (g3, Obj.cells (rawV (upTo 36 (wordL d v) (4 + j))) 23 (0, 0))] wr) (fun z25 _ => 32 - (intOf z25).toNat)
    case atStart => exact ⟨0, by omega, rfl, (by skip; exact OW.out)⟩
    case round =>
      obtain ⟨j, hk17, rfl, hO⟩ := hrel
      clear OW OZ
      have OW := Lib.hid hO
      obtain ⟨g16, OZ⟩ := own_size OW HB0
      clear hO
      gi_upto_region 8 with fail
      obtain ⟨eo180, qeo180⟩ : ∃ e, (decide ((j : Int) < 32)) = e := ⟨_, rfl⟩
      refine wpIn_region_heldL 1 (atD [[]]) (atV [fun vH _ => vH = .bool eo180]) BelowR (by kernel_rfl) BelowR.trans (BelowR.refl _)
        (StV.atV (.const _ .nil))
        ⟨?o18x0, trivial⟩ ?_
      case o18x0 =>
        exact held_run free_wide rfl (by rfl) BelowR.refl fun xH w' kH hR => ⟨_, run_binO rfl (pO (by kernel_rfl) rfl) rfl bin_lss, (congrArg Value.bool qeo180)⟩
      intro xH w' hv hR
      subst qeo180
      have h0 : xH 0 = _ := hv 0 (by omega)
      simp only [List.take_succ_cons, List.take_zero, List.drop_succ_cons, List.drop_zero, putsH, Act.put, List.setIfInBounds_toArray, List.set_cons_succ, List.set_cons_zero, h0]
      have OW2 := Lib.hid (OW.out.step hR)
      clear hv hR OW OZ h0
      have OW := OW2
      clear OW2
      obtain ⟨g19, OZ⟩ := own_size OW HB0
      cases hB20 : (decide ((j : Int) < 32))
      case true =>
        have dhB20 := of_decide_eq_true hB20
        gi_upto_region 9 with fail
        refine wpIn_region_heldL 4 (atD [[], [], [0], [1]]) (atV [fun vH _ => vH = .int .i64 (j : Int), fun vH _ => vH = .int .u8 ((d.getD j 0).toNat : Int), fun vH _ => vH = .int .i64 (j : Int), fun vH _ => vH = .int .u8 ((d.getD j 0).toNat : Int)]) BelowR (by kernel_rfl) BelowR.trans (BelowR.refl _)
          (StV.atV (.const _ (.const _ (.const _ (.const _ .nil)))))
          ⟨?o21x0, ?o21x1, ?o21x2, ?o21x3, trivial⟩ ?_
        case o21x0 =>
          exact held_move free_wide rfl BelowR.refl (.tmp 25) (.inl rfl) fun xH w' kH _ => (pO (by kernel_rfl) rfl)
        case o21x1 =>
          exact held_run free_wide rfl (by rfl) BelowR.refl fun xH w' kH hR => ⟨_, run_indO (vx := .agg (rawV d)) (vi := .int .i64 (j : Int)) rfl (pO (by kernel_rfl) rfl) (pO (by kernel_rfl) rfl) (ixV32 _ j HD.out (by omega) _), rfl⟩
        case o21x2 =>
          exact held_move free_wide rfl BelowR.refl (.tmp 27) (.inr rfl) fun xH w' kH _ => (pT 0 (by kernel_rfl) (by kernel_rfl) (kH 0 (by decide)))
        case o21x3 =>
          exact held_move free_wide rfl BelowR.refl (.tmp 28) (.inr rfl) fun xH w' kH _ => (pT 1 (by kernel_rfl) (by kernel_rfl) (kH 1 (by decide)))
        intro xH w' hv hR
        have h0 : xH 0 = _ := hv 0 (by omega)
        have h1 : xH 1 = _ := hv 1 (by omega)
        have h2 : xH 2 = _ := hv 2 (by omega)
        have h3 : xH 3 = _ := hv 3 (by omega)
        simp only [List.take_succ_cons, List.take_zero, List.drop_succ_cons, List.drop_zero, putsH, Act.put, List.setIfInBounds_toArray, List.set_cons_succ, List.set_cons_zero, h0, h1, h2, h3]
        have OW2 := Lib.hid (OW.out.step hR)
        clear hv hR OW OZ h0 h1 h2 h3
        have OW := OW2
        clear OW2
        obtain ⟨g22, OZ⟩ := own_size OW HB0
        gi_wp2_with (first | (refine own_valV 30 rfl rfl rfl (.int .i64 (4 + (j : Int))) (run_binO (vx := .int .i64 4) (vy := .int .i64 (j : Int)) rfl rfl rfl (bin_add_in (by omega) (by omega))) ?_) | (refine own_valV 32 rfl rfl rfl (.pointer (some ⟨g3, 4 + j, none⟩)) (run_idxO (vx := .pointer (some ⟨g3, 0, none⟩)) (vi := .int .i64 (4 + (j : Int))) rfl rfl rfl (arX36 _ (4 + j) (by omega) _)) ?_) | (refine own_store 3 5 (.tmp 32) (.tmp 31) rfl rfl rfl rfl (.int .u8 ((d.getD j 0).toNat : Int)) rfl (rawV ((upTo 36 (wordL d v) (4 + j)).set (4 + j) (d.getD j 0))) (rawV_set _ _ (d.getD j 0)) (by rw [rawV_size, (show ((upTo 36 (wordL d v) (4 + j))).length = 36 by simp only [chkL_len, upTo_len, List.length_set, HD.out, HV.out])]; omega) rfl szU8 _ rfl OW OZ ?_; clear OW OZ; intro W OW OZ) | (refine own_valV 33 rfl rfl rfl (.int .i64 ((j : Int) + 1)) (run_binO (vx := .int .i64 (j : Int)) (vy := .int .i64 1) rfl rfl rfl (bin_add_in (by omega) (by omega))) ?_))
        go_roundw
        case rel => exact ⟨j + 1, by omega, by go_num, (by rw [← Nat.add_assoc, ← upTo_set, show co (wordL d v) (4 + j) = d.getD j 0 from co_right (chkL_len d v)]; exact OW.out)⟩
        case measure => (simp [intOf] <;> omega)
      have dhB20 := of_decide_eq_false hB20
      obtain rfl : j = 32 := by omega
      gi_wp2_with (first | (refine own_loadRowV 34 3 23 (.tmp 7) rfl rfl rfl rfl rfl _ Try.underlying23 rfl (arJ36 (show ((upTo 36 (wordL d v) (4 + (32 : Nat)))).length = 36 by simp only [chkL_len, upTo_len, List.length_set, HD.out, HV.out])) OW ?_) | (refine own_storeRow 2 23 (.tmp 6) (.tmp 34) rfl rfl rfl rfl (rawV (upTo 36 (wordL d v) (4 + (32 : Nat)))) rfl (by rw [rawV_size, rawV_size, (show ((upTo 36 (wordL d v) (4 + (32 : Nat)))).length = 36 by simp only [chkL_len, upTo_len, List.length_set, HD.out, HV.out]), (show ((List.replicate 36 0) : List UInt8).length = 36 from List.length_replicate)]) (rawV_one _) (arJ36 (show ((upTo 36 (wordL d v) (4 + (32 : Nat)))).length = 36 by simp only [chkL_len, upTo_len, List.length_set, HD.out, HV.out])) _ rfl OW OZ ?_; clear OW OZ; intro W OW OZ))
      refine leaves_own [] _ (Nat.le_of_eq HB0.out) (by simpa using OW.out) ?_
      intro W' hO
      exact ⟨.agg (rawV (upTo 36 (wordL d v) (4 + (32 : Nat)))), results_ownRow hO 2 rfl rfl rfl Try.underlying23 rfl (arJ36 (show ((upTo 36 (wordL d v) (4 + (32 : Nat)))).length = 36 by simp only [chkL_len, upTo_len, List.length_set, HD.out, HV.out])), (by rw [show 4 + 32 = 36 from rfl, upTo_all (wordL_len d v HD.out)]), hO.done HB0⟩
set_option maxRecDepth 100000 in
set_option maxHeartbeats 1000000 in
theorem verdict_any (cb fb : Nat) (d v : List UInt8) (hd : d.length = 36) (hv : v.length = 3) (w : World) (hC : CodeAt w cb fb) : Calls Try.prog 21 #[.pointer (some ⟨cb, 0, none⟩), .agg (rawV d), .agg (rawV v)] w fun e w' => e = .returned (.agg #[.int .i64 ((locF (co (synL d v))).kind : Int), .int .i64 (locF (co (synL d v))).place, .int .u8 ((locF (co (synL d v))).val.toNat : Int)]) ∧ Below w.heap.size w w' := by
  obtain ⟨b0, hb0⟩ : ∃ b0, w.heap.size = b0 := ⟨_, rfl⟩
  have HB0 := Lib.hid hb0
  have OW := Lib.hid (Own.start b0 w)
  have OZ := Lib.hid (And.intro hb0 (Nat.le_refl b0))
  clear hb0
  have HD := Lib.hid hd
  have HV := Lib.hid hv
  have HCODE := Lib.hid (fun (L : Objs) (V : World) (h : Own b0 w L V) => (show CodeAt V cb fb from hC.below (by rw [HB0.out]; exact h.below (Nat.le_of_eq HB0.out.symm))))
  clear hC hd hv
  refine (callsIn_wide (n := 6)).1 ?_
  refine callsIn_of_wp_marks Try.func21 rfl trivial ?_ rfl
  simp only [Try.ntmps21, List.size_toArray, List.length_cons, List.length_nil, Nat.reduceAdd, Nat.reduceSub, Array.replicate_succ, Array.replicate_zero, List.push_toArray, List.append_toArray, List.nil_append, List.cons_append]
  gi_wp2_with (first | (refine own_boxV 4 23 (.tmp 1) rfl rfl rfl (.agg (rawV d)) rfl (rawV d) rfl OW OZ ?_; clear OW OZ; intro W g1 OW OZ) | (refine own_boxV 5 24 (.tmp 2) rfl rfl rfl (.agg (rawV v)) rfl (rawV v) rfl OW OZ ?_; clear OW OZ; intro W g2 OW OZ) | (refine own_allocV 6 30 rfl rfl rfl #[.int .i64 0, .int .i64 0, .int .u8 0] (fun _ => by kernel_rfl) OW OZ ?_; clear OW OZ; intro W g3 OW OZ) | (refine own_loadRowV 11 0 23 (.tmp 4) rfl rfl rfl rfl rfl _ Try.underlying23 rfl (arJ36 (show (d).length = 36 from HD.out)) OW ?_) | (refine own_loadRowV 12 1 24 (.tmp 5) rfl rfl rfl rfl rfl _ Try.underlying24 rfl (arJ3 (show (v).length = 3 from HV.out)) OW ?_))
  refine ⟨trivial, ?_⟩
  refine (callsIn_wide.2 (decode_any cb fb d v (HD.out) (HV.out) _ (HCODE.out _ _ OW.out))).mono ?_
  rintro e Wg4 ⟨rfl, hbw⟩
  obtain ⟨g4, OW2, OZ2⟩ := own_call OW OZ hbw
  clear hbw OW OZ
  have OW := OW2
  have OZ := OZ2
  clear OW2 OZ2
  gi_wp2_with (first | (refine own_valV 14 rfl rfl rfl (.agg (rawV (decL d v))) (run_extractO rfl rfl rfl) ?_) | (refine own_valV 15 rfl rfl rfl (.agg #[.int .i64 ((locF (co (synL d v))).kind : Int), .int .i64 (locF (co (synL d v))).place, .int .u8 ((locF (co (synL d v))).val.toNat : Int)]) (run_extractO rfl rfl rfl) ?_) | (refine own_allocV 7 32 rfl rfl rfl (rawV (List.replicate 32 0)) al32 OW OZ ?_; clear OW OZ; intro W g5 OW OZ) | (refine own_allocV 8 30 rfl rfl rfl #[.int .i64 0, .int .i64 0, .int .u8 0] (fun _ => by kernel_rfl) OW OZ ?_; clear OW OZ; intro W g6 OW OZ) | (refine own_storeRow 3 32 (.tmp 7) (.tmp 14) rfl rfl rfl rfl (rawV (decL d v)) rfl (by rw [rawV_size, rawV_size, (show ((decL d v)).length = 32 by simp only [decL_len, HD.out, HV.out]), (show ((List.replicate 32 0) : List UInt8).length = 32 from List.length_replicate)]) (rawV_one _) (arJ32 (show ((decL d v)).length = 32 by simp only [decL_len, HD.out, HV.out])) _ rfl OW OZ ?_; clear OW OZ; intro W OW OZ) | (refine own_storeSub 4 0 30 (.tmp 8) (.tmp 15) rfl rfl rfl rfl [.int .i64 ((locF (co (synL d v))).kind : Int), .int .i64 (locF (co (synL d v))).place, .int .u8 ((locF (co (synL d v))).val.toNat : Int)] rfl (Nat.le_of_ble_eq_true rfl) rfl (by kernel_rfl) #[.int .i64 ((locF (co (synL d v))).kind : Int), .int .i64 (locF (co (synL d v))).place, .int .u8 ((locF (co (synL d v))).val.toNat : Int)] rfl _ rfl OW OZ ?_; clear OW OZ; intro W OW OZ) | (refine own_loadSubV 16 4 0 30 (.tmp 8) rfl rfl rfl rfl rfl [.int .i64 ((locF (co (synL d v))).kind : Int), .int .i64 (locF (co (synL d v))).place, .int .u8 ((locF (co (synL d v))).val.toNat : Int)] rfl Try.underlying30 rfl (by kernel_rfl) OW ?_) | (refine own_storeSub 2 0 30 (.tmp 6) (.tmp 16) rfl rfl rfl rfl [.int .i64 ((locF (co (synL d v))).kind : Int), .int .i64 (locF (co (synL d v))).place, .int .u8 ((locF (co (synL d v))).val.toNat : Int)] rfl (Nat.le_of_ble_eq_true rfl) rfl (by kernel_rfl) #[.int .i64 ((locF (co (synL d v))).kind : Int), .int .i64 (locF (co (synL d v))).place, .int .u8 ((locF (co (synL d v))).val.toNat : Int)] rfl _ rfl OW OZ ?_; clear OW OZ; intro W OW OZ))
  refine leaves_own [] _ (Nat.le_of_eq HB0.out) (by simpa using OW.out) ?_
  intro W' hO
  exact ⟨.agg #[.int .i64 ((locF (co (synL d v))).kind : Int), .int .i64 (locF (co (synL d v))).place, .int .u8 ((locF (co (synL d v))).val.toNat : Int)], results_ownRow hO 2 rfl rfl rfl Try.underlying30 rfl (by kernel_rfl), rfl, hO.done HB0⟩

set_option maxRecDepth 100000 in
set_option maxHeartbeats 1000000 in
theorem gen_any (cb fb : Nat) (w : World) (hC : CodeAt w cb fb) : Calls Try.prog 22 #[.pointer (some ⟨cb, 0, none⟩)] w fun e w' => ∃ g rest, e = .returned (.slice (some ⟨g, 0, none⟩) 5 (5 + rest.length)) ∧ Own w.heap.size w [(g, Obj.cells (rowV genL rest) 5 (0, 0))] w' := by
  obtain ⟨A5, c5, hcb, hcf, hcg, hc5⟩ := hC
  have HT := Lib.hid (trim_any A5 5 c5 genL genL_len hc5 (by omega) w hcg)
  rw [show trimL genL = genL from by rw [genL_eq]; decide +kernel] at HT
  have HL := Lib.hid (hcb.cell 1)
  obtain ⟨b0, hb0⟩ : ∃ b0, w.heap.size = b0 := ⟨_, rfl⟩
  have HB0 := Lib.hid hb0
  have OW := Lib.hid (Own.start b0 w)
  have OZ := Lib.hid (And.intro hb0 (Nat.le_refl b0))
  clear hb0
  clear hcb hcf hcg hc5
  refine (callsIn_wide (n := 6)).1 ?_
  refine callsIn_of_wp_marks Try.func22 rfl trivial ?_ rfl
  simp only [Try.ntmps22, List.size_toArray, List.length_cons, List.length_nil, Nat.reduceAdd, Nat.reduceSub, Array.replicate_succ, Array.replicate_zero, List.push_toArray, List.append_toArray, List.nil_append, List.cons_append]
  gi_wp2_with (first
    | (refine own_valV 4 rfl rfl rfl (.pointer (some ⟨cb, 0, none⟩)) (run_nilO (p := ⟨cb, 0, none⟩) rfl rfl) ?_)
    | (refine own_valV 6 rfl rfl rfl (.slice A5 5 c5) (run_ldO rfl (p := ⟨cb, 1, none⟩) rfl (run_loadVar_cell (naS _) (HL.out.trans rfl))) ?_))
  refine ⟨trivial, ?_⟩
  refine (callsIn_wide.2 HT.out).mono ?_
  rintro e W1 ⟨u, rfl, hv, hb⟩
  obtain ⟨g, rest, rfl, hg, hm, hblk⟩ := hv.row (by rw [genL_len]; omega)
  rw [genL_len]
  have OW2 := Lib.hid (Own.add OW.out hb (by rw [OZ.out.1]; exact OZ.out.2) hg hblk)
  clear hv hb hblk OW hm hg
  gi_wp2
  refine leaves_own [] _ (Nat.le_of_eq HB0.out) (by simpa using OW2.out) ?_
  intro W' hO
  exact ⟨_, by simp [results, Try.results22, go_sem], g, rest, rfl, by rw [HB0.out]; exact hO⟩
theorem loc_zero : locF (co (synL (List.replicate 36 0) (List.replicate 3 0))) = ⟨0, -1, 0⟩ := by decide +kernel
theorem loc_nine : locF (co (synL ((List.replicate 36 0).set 4 9) (List.replicate 3 0))) = ⟨1, 4, 9⟩ := by decide +kernel

set_option maxRecDepth 100000 in
set_option maxHeartbeats 1000000 in
theorem coded_any  (w : World) : Calls Try.prog 10 #[] w fun e w' => ∃ cb fb gb rest, e = .returned (.pointer (some ⟨cb, 0, none⟩)) ∧ Own w.heap.size w [(fb, Obj.cells fieldCells 68 (0, 0)), (gb, Obj.cells (rowV genL rest) 5 (0, 0)), (cb, Obj.cells #[.pointer (some ⟨fb, 0, none⟩), .slice (some ⟨gb, 0, none⟩) 5 (5 + rest.length)] 59 (0, 0))] w' := by
  obtain ⟨b0, hb0⟩ : ∃ b0, w.heap.size = b0 := ⟨_, rfl⟩
  have HB0 := Lib.hid hb0
  have OW := Lib.hid (Own.start b0 w)
  have OZ := Lib.hid (And.intro hb0 (Nat.le_refl b0))
  clear hb0
  refine (callsIn_wide (n := 6)).1 ?_
  refine callsIn_of_wp_marks Try.func10 rfl trivial ?_ rfl
  simp only [Try.ntmps10, List.size_toArray, List.length_cons, List.length_nil, Nat.reduceAdd, Nat.reduceSub, Array.replicate_succ, Array.replicate_zero, List.push_toArray, List.append_toArray, List.nil_append, List.cons_append]
  gi_upto_region 1 with fail
  gi_wp2_with fail
  refine ⟨trivial, ?_⟩
  refine (callsIn_wide.2 (new_any _)).mono ?_
  rintro e Wf ⟨he, hq⟩
  obtain ⟨fb, hfb⟩ : ∃ fb, w.heap.size = fb := ⟨_, rfl⟩
  rw [hfb] at he
  subst he
  have hO1 : Own b0 w [(fb, Obj.cells fieldCells 68 (0, 0))] Wf := by
    rw [hq, ← hfb]
    exact OW.out.alloc (by rw [OZ.out.1]; exact OZ.out.2) _
  have hZ1 : b0 ≤ Wf.heap.size := by rw [hq]; have := OZ.out; simp; omega
  have OW1 := Lib.hid hO1
  have OZ1 := Lib.hid hZ1
  clear hO1 hZ1 hq OW OZ
  gi_wp2_with fail
  refine ⟨trivial, ?_⟩
  refine (callsIn_wide.2 (rsNew_own fb _ (OW1.out.get (k := 0) rfl))).mono ?_
  rintro e Wg ⟨cb, gb, rest, rfl, hO⟩
  have OW := Lib.hid (Own.join OW1.out OZ1.out hO)
  obtain ⟨grg1, OZ⟩ := own_size OW HB0
  clear OW1 OZ1 hO
  have HCODE := Lib.hid (fun (L : Objs) (V : World) (h : Own b0 w L V) (h1 : L[0]? = some (fb, Obj.cells fieldCells 68 (0, 0))) (h2 : L[1]? = some (gb, Obj.cells (rowV genL rest) 5 (0, 0))) (h3 : L[2]? = some (cb, Obj.cells #[.pointer (some ⟨fb, 0, none⟩), .slice (some ⟨gb, 0, none⟩) 5 (5 + rest.length)] 59 (0, 0))) => CodeAt.mk3 h h1 h2 h3)
  gi_upto_region 2 with fail
  refine wpIn_region_heldL 2 (atD [[], [0]]) (atV [fun vH _ => vH = .pointer (some ⟨cb, 0, none⟩), fun vH _ => vH = .bool false]) BelowR (by kernel_rfl) BelowR.trans (BelowR.refl _)
    (StV.atV (.const _ (.const _ .nil)))
    ⟨?o2x0, ?o2x1, trivial⟩ ?_
  case o2x0 =>
    exact held_move free_wide rfl BelowR.refl (.tmp 1) (.inl rfl) fun xH w' kH _ => (pO (by kernel_rfl) rfl)
  case o2x1 =>
    exact held_run free_wide rfl (by rfl) BelowR.refl fun xH w' kH hR => ⟨_, run_binO rfl (pT 0 (by kernel_rfl) (by kernel_rfl) (kH 0 (by decide))) rfl (by kernel_rfl), rfl⟩
  intro xH w' hv hR
  have h0 : xH 0 = _ := hv 0 (by omega)
  have h1 : xH 1 = _ := hv 1 (by omega)
  simp only [List.take_succ_cons, List.take_zero, List.drop_succ_cons, List.drop_zero, putsH, Act.put, List.setIfInBounds_toArray, List.set_cons_succ, List.set_cons_zero, h0, h1]
  have OW2 := Lib.hid (OW.out.step hR)
  clear hv hR OW OZ h0 h1
  have OW := OW2
  clear OW2
  obtain ⟨g3, OZ⟩ := own_size OW HB0
  gi_wp2_with (first | (refine own_allocV 2 23 rfl rfl rfl (rawV (List.replicate 36 0)) al36 OW OZ ?_; clear OW OZ; intro W g4 OW OZ) | (refine own_loadRowV 13 3 23 (.tmp 2) rfl rfl rfl rfl rfl _ Try.underlying23 rfl (arJ36 (show ((List.replicate 36 0) : List UInt8).length = 36 from List.length_replicate)) OW ?_) | (refine own_valV 14 rfl rfl rfl (.agg (rawV (List.replicate 3 0))) (run_buildO rfl (vs := #[]) rfl _ (by kernel_rfl)) ?_))
  refine ⟨trivial, ?_⟩
  refine (callsIn_wide.2 (decode_any cb fb (List.replicate 36 0) (List.replicate 3 0) (List.length_replicate) (List.length_replicate) _ (HCODE.out _ _ OW.out rfl rfl rfl))).mono ?_
  rintro e Wg5 ⟨rfl, hbw⟩
  obtain ⟨g5, OW2, OZ2⟩ := own_call OW OZ hbw
  clear hbw OW OZ
  have OW := OW2
  have OZ := OZ2
  clear OW2 OZ2
  gi_wp2_with (first | (refine own_valV 16 rfl rfl rfl (.agg (rawV (decL (List.replicate 36 0) (List.replicate 3 0)))) (run_extractO rfl rfl rfl) ?_) | (refine own_valV 17 rfl rfl rfl (.agg #[.int .i64 ((locF (co (synL (List.replicate 36 0) (List.replicate 3 0)))).kind : Int), .int .i64 (locF (co (synL (List.replicate 36 0) (List.replicate 3 0)))).place, .int .u8 ((locF (co (synL (List.replicate 36 0) (List.replicate 3 0)))).val.toNat : Int)]) (run_extractO rfl rfl rfl) ?_) | (refine own_allocV 3 32 rfl rfl rfl (rawV (List.replicate 32 0)) al32 OW OZ ?_; clear OW OZ; intro W g6 OW OZ) | (refine own_allocV 4 30 rfl rfl rfl #[.int .i64 0, .int .i64 0, .int .u8 0] (fun _ => by kernel_rfl) OW OZ ?_; clear OW OZ; intro W g7 OW OZ) | (refine own_storeRow 4 32 (.tmp 3) (.tmp 16) rfl rfl rfl rfl (rawV (decL (List.replicate 36 0) (List.replicate 3 0))) rfl (by rw [rawV_size, rawV_size, (show ((decL (List.replicate 36 0) (List.replicate 3 0))).length = 32 by simp only [decL_len, List.length_set, List.length_replicate]), (show ((List.replicate 32 0) : List UInt8).length = 32 from List.length_replicate)]) (rawV_one _) (arJ32 (show ((decL (List.replicate 36 0) (List.replicate 3 0))).length = 32 by simp only [decL_len, List.length_set, List.length_replicate])) _ rfl OW OZ ?_; clear OW OZ; intro W OW OZ) | (refine own_storeSub 5 0 30 (.tmp 4) (.tmp 17) rfl rfl rfl rfl [.int .i64 ((locF (co (synL (List.replicate 36 0) (List.replicate 3 0)))).kind : Int), .int .i64 (locF (co (synL (List.replicate 36 0) (List.replicate 3 0)))).place, .int .u8 ((locF (co (synL (List.replicate 36 0) (List.replicate 3 0)))).val.toNat : Int)] rfl (Nat.le_of_ble_eq_true rfl) rfl (by kernel_rfl) #[.int .i64 ((locF (co (synL (List.replicate 36 0) (List.replicate 3 0)))).kind : Int), .int .i64 (locF (co (synL (List.replicate 36 0) (List.replicate 3 0)))).place, .int .u8 ((locF (co (synL (List.replicate 36 0) (List.replicate 3 0)))).val.toNat : Int)] rfl _ rfl OW OZ ?_; clear OW OZ; intro W OW OZ) | (refine own_store 3 5 (.tmp 18) (.const (.int .u8 9)) rfl rfl rfl rfl (.int .u8 9) rfl (rawV ((List.replicate 36 0).set 4 (9 : UInt8))) (rawV_set _ _ (9 : UInt8)) (by rw [rawV_size, (show ((List.replicate 36 0) : List UInt8).length = 36 from List.length_replicate)]; decide) rfl szU8 _ rfl OW OZ ?_; clear OW OZ; intro W OW OZ) | (refine own_loadRowV 21 3 23 (.tmp 2) rfl rfl rfl rfl rfl _ Try.underlying23 rfl (arJ36 (show (((List.replicate 36 0).set 4 (9 : UInt8))).length = 36 by simp only [decL_len, List.length_set, List.length_replicate])) OW ?_) | (refine own_valV 22 rfl rfl rfl (.agg (rawV (List.replicate 3 0))) (run_buildO rfl (vs := #[]) rfl _ (by kernel_rfl)) ?_))
  refine ⟨trivial, ?_⟩
  refine (callsIn_wide.2 (decode_any cb fb ((List.replicate 36 0).set 4 (9 : UInt8)) (List.replicate 3 0) (by simp only [decL_len, List.length_set, List.length_replicate]) (List.length_replicate) _ (HCODE.out _ _ OW.out rfl rfl rfl))).mono ?_
  rintro e Wg8 ⟨rfl, hbw⟩
  obtain ⟨g8, OW2, OZ2⟩ := own_call OW OZ hbw
  clear hbw OW OZ
  have OW := OW2
  have OZ := OZ2
  clear OW2 OZ2
  gi_upto_region 8 with (first | (refine own_valV 24 rfl rfl rfl (.agg (rawV (decL ((List.replicate 36 0).set 4 (9 : UInt8)) (List.replicate 3 0)))) (run_extractO rfl rfl rfl) ?_) | (refine own_valV 25 rfl rfl rfl (.agg #[.int .i64 ((locF (co (synL ((List.replicate 36 0).set 4 (9 : UInt8)) (List.replicate 3 0)))).kind : Int), .int .i64 (locF (co (synL ((List.replicate 36 0).set 4 (9 : UInt8)) (List.replicate 3 0)))).place, .int .u8 ((locF (co (synL ((List.replicate 36 0).set 4 (9 : UInt8)) (List.replicate 3 0)))).val.toNat : Int)]) (run_extractO rfl rfl rfl) ?_) | (refine own_allocV 5 32 rfl rfl rfl (rawV (List.replicate 32 0)) al32 OW OZ ?_; clear OW OZ; intro W g9 OW OZ) | (refine own_allocV 6 30 rfl rfl rfl #[.int .i64 0, .int .i64 0, .int .u8 0] (fun _ => by kernel_rfl) OW OZ ?_; clear OW OZ; intro W g10 OW OZ) | (refine own_storeRow 6 32 (.tmp 5) (.tmp 24) rfl rfl rfl rfl (rawV (decL ((List.replicate 36 0).set 4 (9 : UInt8)) (List.replicate 3 0))) rfl (by rw [rawV_size, rawV_size, (show ((decL ((List.replicate 36 0).set 4 (9 : UInt8)) (List.replicate 3 0))).length = 32 by simp only [decL_len, List.length_set, List.length_replicate]), (show ((List.replicate 32 0) : List UInt8).length = 32 from List.length_replicate)]) (rawV_one _) (arJ32 (show ((decL ((List.replicate 36 0).set 4 (9 : UInt8)) (List.replicate 3 0))).length = 32 by simp only [decL_len, List.length_set, List.length_replicate])) _ rfl OW OZ ?_; clear OW OZ; intro W OW OZ) | (refine own_storeSub 7 0 30 (.tmp 6) (.tmp 25) rfl rfl rfl rfl [.int .i64 ((locF (co (synL ((List.replicate 36 0).set 4 (9 : UInt8)) (List.replicate 3 0)))).kind : Int), .int .i64 (locF (co (synL ((List.replicate 36 0).set 4 (9 : UInt8)) (List.replicate 3 0)))).place, .int .u8 ((locF (co (synL ((List.replicate 36 0).set 4 (9 : UInt8)) (List.replicate 3 0)))).val.toNat : Int)] rfl (Nat.le_of_ble_eq_true rfl) rfl (by kernel_rfl) #[.int .i64 ((locF (co (synL ((List.replicate 36 0).set 4 (9 : UInt8)) (List.replicate 3 0)))).kind : Int), .int .i64 (locF (co (synL ((List.replicate 36 0).set 4 (9 : UInt8)) (List.replicate 3 0)))).place, .int .u8 ((locF (co (synL ((List.replicate 36 0).set 4 (9 : UInt8)) (List.replicate 3 0)))).val.toNat : Int)] rfl _ rfl OW OZ ?_; clear OW OZ; intro W OW OZ))
  refine wpIn_region_heldL 8 (atD [[], [], [0, 1], [2], [3], [3], [3, 4, 5], [3, 6]]) (atV [fun vH _ => vH = .agg #[.int .i64 ((locF (co (synL (List.replicate 36 0) (List.replicate 3 0)))).kind : Int), .int .i64 (locF (co (synL (List.replicate 36 0) (List.replicate 3 0)))).place, .int .u8 ((locF (co (synL (List.replicate 36 0) (List.replicate 3 0)))).val.toNat : Int)], fun vH _ => vH = .agg #[.int .i64 0, .int .i64 (-1), .int .u8 0], fun vH _ => vH = .bool false, fun vH _ => vH = .bool false, fun vH _ => vH = .agg #[.int .i64 ((locF (co (synL ((List.replicate 36 0).set 4 (9 : UInt8)) (List.replicate 3 0)))).kind : Int), .int .i64 (locF (co (synL ((List.replicate 36 0).set 4 (9 : UInt8)) (List.replicate 3 0)))).place, .int .u8 ((locF (co (synL ((List.replicate 36 0).set 4 (9 : UInt8)) (List.replicate 3 0)))).val.toNat : Int)], fun vH _ => vH = .agg #[.int .i64 1, .int .i64 4, .int .u8 9], fun vH _ => vH = .bool false, fun vH _ => vH = .bool false]) BelowR (by kernel_rfl) BelowR.trans (BelowR.refl _)
    (StV.atV (.const _ (.const _ (.const _ (.const _ (.const _ (.const _ (.const _ (.const _ .nil)))))))))
    ⟨?o11x0, ?o11x1, ?o11x2, ?o11x3, ?o11x4, ?o11x5, ?o11x6, ?o11x7, trivial⟩ ?_
  case o11x0 =>
    exact held_load free_wide rfl BelowR.refl 30 (.tmp 4) rfl fun xH w' kH hR => ⟨_, _, (pO (by kernel_rfl) rfl), ldS OW hR 5 rfl 3 rfl Try.underlying30 rfl rfl (by kernel_rfl), rfl⟩
  case o11x1 =>
    exact held_run free_wide rfl (by rfl) BelowR.refl fun xH w' kH hR => ⟨_, run_buildO rfl (mapB2 rfl rfl) _ (by kernel_rfl), rfl⟩
  case o11x2 =>
    exact held_run free_wide rfl (by rfl) BelowR.refl fun xH w' kH hR => ⟨_, run_binO rfl (pT 0 (by kernel_rfl) (by kernel_rfl) (kH 0 (by decide))) (pT 1 (by kernel_rfl) (by kernel_rfl) (kH 1 (by decide))) (by rw [loc_zero]; kernel_rfl), rfl⟩
  case o11x3 =>
    exact held_move free_wide rfl BelowR.refl (.tmp 28) (.inl rfl) fun xH w' kH _ => (pT 2 (by kernel_rfl) (by kernel_rfl) (kH 2 (by decide)))
  case o11x4 =>
    exact held_loadG free_wide (heldGd_some 3 29 false rfl (by kernel_rfl) (by kernel_rfl) (by kernel_rfl) (fun xH w' kH => kH 3 (by decide))) BelowR.refl 30 (.tmp 6) rfl fun xH w' kH hR => ⟨_, _, (pO (by kernel_rfl) rfl), ldS OW hR 7 rfl 3 rfl Try.underlying30 rfl rfl (by kernel_rfl), rfl⟩
  case o11x5 =>
    exact held_runG free_wide (heldGd_some 3 29 false rfl (by kernel_rfl) (by kernel_rfl) (by kernel_rfl) (fun xH w' kH => kH 3 (by decide))) (by rfl) BelowR.refl fun xH w' kH hR => ⟨_, run_buildO rfl (mapB3 rfl rfl rfl) _ (by kernel_rfl), rfl⟩
  case o11x6 =>
    exact held_runG free_wide (heldGd_some 3 29 false rfl (by kernel_rfl) (by kernel_rfl) (by kernel_rfl) (fun xH w' kH => kH 3 (by decide))) (by rfl) BelowR.refl fun xH w' kH hR => ⟨_, run_binO rfl (pT 4 (by kernel_rfl) (by kernel_rfl) (kH 4 (by decide))) (pT 5 (by kernel_rfl) (by kernel_rfl) (kH 5 (by decide))) (by rw [loc_nine]; kernel_rfl), rfl⟩
  case o11x7 =>
    exact held_run free_wide rfl (by rfl) BelowR.refl fun xH w' kH hR => ⟨_, run_pickF rfl (pT 3 (by kernel_rfl) (by kernel_rfl) (kH 3 (by decide))) (pT 6 (by kernel_rfl) (by kernel_rfl) (kH 6 (by decide))), rfl⟩
  intro xH w' hv hR
  have h0 : xH 0 = _ := hv 0 (by omega)
  have h1 : xH 1 = _ := hv 1 (by omega)
  have h2 : xH 2 = _ := hv 2 (by omega)
  have h3 : xH 3 = _ := hv 3 (by omega)
  have h4 : xH 4 = _ := hv 4 (by omega)
  have h5 : xH 5 = _ := hv 5 (by omega)
  have h6 : xH 6 = _ := hv 6 (by omega)
  have h7 : xH 7 = _ := hv 7 (by omega)
  simp only [List.take_succ_cons, List.take_zero, List.drop_succ_cons, List.drop_zero, putsH, Act.put, List.setIfInBounds_toArray, List.set_cons_succ, List.set_cons_zero, h0, h1, h2, h3, h4, h5, h6, h7]
  have OW2 := Lib.hid (OW.out.step hR)
  clear hv hR OW OZ h0 h1 h2 h3 h4 h5 h6 h7
  have OW := OW2
  clear OW2
  obtain ⟨g12, OZ⟩ := own_size OW HB0
  gi_upto_region 10 with fail
  refine wpIn_region_heldL 2 (atD [[], [0]]) (atV [fun vH _ => vH = .pointer (some ⟨cb, 0, none⟩), fun vH _ => vH = .pointer (some ⟨cb, 0, none⟩)]) BelowR (by kernel_rfl) BelowR.trans (BelowR.refl _)
    (StV.atV (.const _ (.const _ .nil)))
    ⟨?o13x0, ?o13x1, trivial⟩ ?_
  case o13x0 =>
    exact held_move free_wide rfl BelowR.refl (.tmp 1) (.inl rfl) fun xH w' kH _ => (pO (by kernel_rfl) rfl)
  case o13x1 =>
    exact held_move free_wide rfl BelowR.refl (.tmp 34) (.inr rfl) fun xH w' kH _ => (pT 0 (by kernel_rfl) (by kernel_rfl) (kH 0 (by decide)))
  intro xH w' hv hR
  have h0 : xH 0 = _ := hv 0 (by omega)
  have h1 : xH 1 = _ := hv 1 (by omega)
  simp only [List.take_succ_cons, List.take_zero, List.drop_succ_cons, List.drop_zero, putsH, Act.put, List.setIfInBounds_toArray, List.set_cons_succ, List.set_cons_zero, h0, h1]
  have OW2 := Lib.hid (OW.out.step hR)
  clear hv hR OW OZ h0 h1
  have OW := OW2
  clear OW2
  obtain ⟨g14, OZ⟩ := own_size OW HB0
  gi_wp2
  refine leaves_own [] _ (Nat.le_of_eq HB0.out) (by simpa using OW.out) ?_
  intro W' hO
  exact ⟨.pointer (some ⟨cb, 0, none⟩), by simp [results, Try.results10, go_sem], cb, fb, gb, rest, rfl, by rw [HB0.out]; exact hO.sublist (Nat.le_of_eq HB0.out) ((((List.nil_sublist _).cons_cons _).cons_cons _).cons_cons _)⟩
end Go.Proofs.Ytdgflbbffimpkaa
