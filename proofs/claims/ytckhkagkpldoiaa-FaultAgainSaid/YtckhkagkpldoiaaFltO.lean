/- Overlay: what is read with a list of faults: a walk. -/
import Derived.Test.YtckhkagkpldoiaaFltM
import Derived.Test.YtckhkagkpldoiaaSRows
import Derived.WalkKit
import Derived.Sort.CutIn
namespace Go.Proofs.Ytckhkagkpldoiaa
open Go.RowKit Go.Shelf
attribute [local go_sem] Oper.semAt_some
set_option linter.unusedVariables false
set_option linter.unusedSimpArgs false

section
variable {P : Program} {w : World} {o : Oper} {ρ : Operand → Value}
theorem run_ldO {T : TypeId} {x : Operand} (ho : o.op = .load T x) {p : Addr} (hx : ρ x = .pointer (some p)) {v : Value} (hr : (loadVar T p).run P w = .ok v w) : (execOp ρ o).run P w = .ok (.value v) w := run_loadO ho hx hr
end
/-- The number i of the k-th fault. -/
def fI (L : List (List Int)) (k i : Nat) : Int := (L.getD k []).getD i 0
def rowsI (L : List (List Int)) : List (List Value) := L.map fun r => r.map fun z => Value.int .i64 z
/-- What is read behind the first k faults. -/
def ovK (L : List (List Int)) (mode q0 q1 q2 q3 : Int) (xs : List UInt8) : Nat → List UInt8
  | 0 => xs
  | k + 1 => fapply (fI L k 0) (fI L k 1) (fI L k 2) (fI L k 3) (fI L k 4) (fI L k 5) (fI L k 6) (fI L k 7) mode q0 q1 q2 q3 (ovK L mode q0 q1 q2 q3 xs k)
theorem rdS_some {W : World} {A : Option Addr} {L : List (List Int)} (h : RdS 8 W A (rowsI L)) {k : Nat} (hk : k < L.length) : ∃ ab ao, A = some ⟨ab, ao, none⟩ := by
  have e2 : (rowsI L)[k]? = some (L[k].map fun z => Value.int .i64 z) := by unfold rowsI; rw [List.getElem?_map, List.getElem?_eq_getElem hk]; rfl
  obtain ⟨_, b, o, hA, _⟩ := h k _ e2
  exact ⟨b, o, hA⟩
theorem fap_len {k p0 p1 p2 p3 c b v mode q0 q1 q2 q3 : Int} {xs : List UInt8} (lx : xs.length = 72) : (fapply k p0 p1 p2 p3 c b v mode q0 q1 q2 q3 xs).length = 72 := by
  unfold fapply
  cases (!(flasts k p0 p1 p2 p3 c b v)) || (!(flies k p0 p1 p2 p3 c b v q0 q1 q2 q3))
  · rw [cond_false]
    cases k == 2
    · rw [cond_false]; exact chipB_len lx
    · rw [cond_true, forceI_len]; exact lx
  · exact lx
theorem ovK_len (L : List (List Int)) (mode q0 q1 q2 q3 : Int) {xs : List UInt8} (lx : xs.length = 72) (k : Nat) : (ovK L mode q0 q1 q2 q3 xs k).length = 72 := by
  induction k with
  | zero => exact lx
  | succ k ih => exact fap_len ih
set_option maxRecDepth 100000 in
theorem ld_row {W : World} {ab ao k : Nat} {L : List (List Int)} (h : RdS 8 W (some ⟨ab, ao, none⟩) (rowsI L)) (h8 : ∀ r ∈ L, r.length = 8) (hk : k < L.length) :
    (loadVar 25 ⟨ab, ao + k * 8, none⟩).run Try.prog W = .ok (.agg #[.int .i64 (fI L k 0), .int .i64 (fI L k 1), .int .i64 (fI L k 2), .int .i64 (fI L k 3), .int .i64 (fI L k 4), .int .i64 (fI L k 5), .int .i64 (fI L k 6), .int .i64 (fI L k 7)]) W := by
  have e1 : L[k]? = some L[k] := List.getElem?_eq_getElem hk
  obtain ⟨r, hr⟩ : ∃ r, L[k] = r := ⟨_, rfl⟩
  rw [hr] at e1
  have hrl : r.length = 8 := h8 r (List.mem_of_getElem? e1)
  have e2 : (rowsI L)[k]? = some (r.map fun z => Value.int .i64 z) := by unfold rowsI; rw [List.getElem?_map, e1]; rfl
  obtain ⟨_, b, o, hA, _, hc⟩ := h k _ e2
  injection hA with hA
  injection hA with e3 e4
  subst e3 e4
  have hf : ∀ i, fI L k i = r.getD i 0 := fun i => by unfold fI; rw [show L.getD k [] = r from by rw [List.getD_eq_getElem?_getD, e1]; rfl]
  obtain ⟨a0, a1, a2, a3, a4, a5, a6, a7, rfl⟩ := list8 hrl
  simp only [hf]
  have h2 := run_loadVar_cells (P := Try.prog) (w := W) (b := ab) (off := ao + k * 8) 25 ([a0, a1, a2, a3, a4, a5, a6, a7].map fun z => Value.int .i64 z) hc Try.underlying25 rfl (by kernel_rfl)
  exact h2
theorem rows_ints : ∀ (rows : List (List Value)), (∀ r ∈ rows, CellsOk (List.replicate 8 (.int .i64)) r) → ∃ L : List (List Int), rows = rowsI L ∧ (∀ r ∈ L, r.length = 8) ∧ ∀ k, k < L.length → -9223372036854775808 ≤ fI L k 6 ∧ fI L k 6 ≤ 9223372036854775807
  | [], _ => ⟨[], rfl, by simp, fun k hk => by simp at hk⟩
  | r :: rows, h => by
    obtain ⟨L, e1, e2, e3⟩ := rows_ints rows fun x hx => h x (List.mem_cons_of_mem _ hx)
    obtain ⟨zs, f1, f2, f3⟩ := cells_ints 8 r (h r (List.mem_cons_self ..))
    refine ⟨zs :: L, by rw [f2, e1]; rfl, fun x hx => ?_, fun k hk => ?_⟩
    · rcases List.mem_cons.1 hx with rfl | hx
      · exact f1
      · exact e2 x hx
    · cases k with
      | zero =>
        have hm : zs.getD 6 0 ∈ zs := by rw [List.getD_eq_getElem?_getD, List.getElem?_eq_getElem (by omega)]; exact List.getElem_mem _
        exact f3 _ hm
      | succ k => exact e3 k (by simpa using hk)
attribute [local irreducible] fapply fI ovK

set_option maxRecDepth 100000 in
set_option maxHeartbeats 1000000 in
theorem over_any (A : Option Addr) (n c : Nat) (L : List (List Int)) (mode q0 q1 q2 q3 : Int) (xs : List UInt8) (hn : n ≤ 1000) (hL : L.length = n) (h8 : ∀ r ∈ L, r.length = 8) (hbd : ∀ k, k < n → -9223372036854775808 ≤ fI L k 6 ∧ fI L k 6 ≤ 9223372036854775807) (lx : xs.length = 72) (w : World) (hR : RdS 8 w A (rowsI L)) : Calls Try.prog 25 #[.slice A n c, .int .i64 mode, .agg #[.int .i64 q0, .int .i64 q1, .int .i64 q2, .int .i64 q3], .agg (rawV xs)] w fun e w' => e = .returned (.agg (rawV (ovK L mode q0 q1 q2 q3 xs n))) ∧ Below w.heap.size w w' := by
  obtain ⟨b0, hb0⟩ : ∃ b0, w.heap.size = b0 := ⟨_, rfl⟩
  have HB0 := Lib.hid hb0
  have OW := Lib.hid (Own.start b0 w)
  have OZ := Lib.hid (And.intro hb0 (Nat.le_refl b0))
  clear hb0
  have HX := Lib.hid lx
  have HL := Lib.hid hL
  have H8 := Lib.hid h8
  have HBD := Lib.hid hbd
  have HRD := Lib.hid hR
  clear lx hL h8 hbd hR
  refine (callsIn_wide (n := 6)).1 ?_
  refine callsIn_of_wp_marks Try.func25 rfl trivial ?_ rfl
  simp only [Try.ntmps25, List.size_toArray, List.length_cons, List.length_nil, Nat.reduceAdd, Nat.reduceSub, Array.replicate_succ, Array.replicate_zero, List.push_toArray, List.append_toArray, List.nil_append, List.cons_append]
  gi_upto_region 1 with (first | (refine onlyD 6 rfl ?_; refine own_boxV 6 23 (.tmp 2) rfl rfl rfl (.agg #[.int .i64 q0, .int .i64 q1, .int .i64 q2, .int .i64 q3]) rfl #[.int .i64 q0, .int .i64 q1, .int .i64 q2, .int .i64 q3] rfl OW OZ ?_; clear OW OZ; intro W g1 OW OZ; simp only [Act.put, List.setIfInBounds_toArray, List.set_cons_succ, List.set_cons_zero]) | (refine onlyD 7 rfl ?_; refine own_boxV 7 41 (.tmp 3) rfl rfl rfl (.agg (rawV xs)) rfl (rawV xs) rfl OW OZ ?_; clear OW OZ; intro W g2 OW OZ; simp only [Act.put, List.setIfInBounds_toArray, List.set_cons_succ, List.set_cons_zero]) | (refine onlyD 8 rfl ?_; refine own_allocV 8 41 rfl rfl rfl (rawV zero72) alRaw OW OZ ?_; clear OW OZ; intro W g3 OW OZ; simp only [Act.put, List.setIfInBounds_toArray, List.set_cons_succ, List.set_cons_zero]))
  refine wpIn_region_heldL 3 (atD [[], [0], []]) (atV [fun vH _ => vH = .slice A n c, fun vH _ => vH = .int .i64 (n : Int), fun vH _ => vH = .int .i64 0]) BelowR (by kernel_rfl) BelowR.trans (BelowR.refl _)
    (StV.atV (.const _ (.const _ (.const _ .nil))))
    ⟨?o4x0, ?o4x1, ?o4x2, trivial⟩ ?_
  case o4x0 =>
    exact held_move free_wide rfl BelowR.refl (.tmp 0) (.inl rfl) fun xH w' kH _ => (pO (by kernel_rfl) rfl)
  case o4x1 =>
    exact held_run free_wide rfl (by rfl) BelowR.refl fun xH w' kH hR => ⟨_, run_lenO rfl (pT 0 (by kernel_rfl) (by kernel_rfl) (kH 0 (by decide))) Try.underlying39, rfl⟩
  case o4x2 =>
    exact held_move free_wide rfl BelowR.refl (.const (.int .i64 0)) (.inl rfl) fun xH w' kH _ => rfl
  intro xH w' hv hR
  have h0 : xH 0 = _ := hv 0 (by omega)
  have h1 : xH 1 = _ := hv 1 (by omega)
  have h2 : xH 2 = _ := hv 2 (by omega)
  simp only [List.take_succ_cons, List.take_zero, List.drop_succ_cons, List.drop_zero, putsH, Act.put, List.setIfInBounds_toArray, List.set_cons_succ, List.set_cons_zero, h0, h1, h2]
  have OW2 := Lib.hid (OW.out.step hR)
  clear hv hR OW OZ  h0 h1 h2
  have OW := OW2
  clear OW2
  obtain ⟨g5, OZ⟩ := own_size OW HB0
  gi_wp2
  gi_loopw [13] (fun z13 wr => ∃ k : Nat, k ≤ n ∧ z13 = .int .i64 (k : Int) ∧ Own b0 w [(b0, Obj.cells (#[.int .i64 q0, .int .i64 q1, .int .i64 q2, .int .i64 q3]) 23 (0, 0)), (g1, Obj.cells (rawV (ovK L mode q0 q1 q2 q3 xs k)) 41 (0, 0)), (g2, Obj.cells (rawV zero72) 41 (0, 0))] wr) (fun z13 _ => n - (intOf z13).toNat)
  case atStart => exact ⟨0, by omega, rfl, (by rw [show ovK L mode q0 q1 q2 q3 xs 0 = xs by rw [ovK]]; exact OW.out)⟩
  case round =>
    obtain ⟨k, hk7, rfl, hO⟩ := hrel
    clear OW OZ
    have OW := Lib.hid hO
    obtain ⟨g6, OZ⟩ := own_size OW HB0
    clear hO
    gi_upto_region 2 with fail
    obtain ⟨eo80, qeo80⟩ : ∃ e, (decide ((k : Int) < (n : Int))) = e := ⟨_, rfl⟩
    refine wpIn_region_heldL 1 (atD [[]]) (atV [fun vH _ => vH = .bool eo80]) BelowR (by kernel_rfl) BelowR.trans (BelowR.refl _)
      (StV.atV (.const _ .nil))
      ⟨?o8x0, trivial⟩ ?_
    case o8x0 =>
      exact held_run free_wide rfl (by rfl) BelowR.refl fun xH w' kH hR => ⟨_, run_binO rfl (pO (by kernel_rfl) rfl) (pO (by kernel_rfl) rfl) bin_lss, (congrArg Value.bool qeo80)⟩
    intro xH w' hv hR
    subst qeo80
    have h0 : xH 0 = _ := hv 0 (by omega)
    simp only [List.take_succ_cons, List.take_zero, List.drop_succ_cons, List.drop_zero, putsH, Act.put, List.setIfInBounds_toArray, List.set_cons_succ, List.set_cons_zero, h0]
    have OW2 := Lib.hid (OW.out.step hR)
    clear hv hR OW OZ  h0
    have OW := OW2
    clear OW2
    obtain ⟨g9, OZ⟩ := own_size OW HB0
    cases hB10 : (decide ((k : Int) < (n : Int)))
    case true =>
      have dhB10 := of_decide_eq_true hB10
      obtain ⟨ab, ao, hA⟩ := rdS_some HRD.out (k := k) (by rw [HL.out]; omega)
      subst hA
      gi_upto_region 4 with (first | (refine onlyD 15 rfl ?_; refine own_valV 15 rfl rfl rfl (.pointer (some ⟨ab, ao + k * 8, none⟩)) (run_idxO (vx := .slice (some ⟨ab, ao, none⟩) n c) (vi := .int .i64 (k : Int)) rfl rfl rfl (run_idxS Try.underlying39 (by kernel_rfl) (by omega))) ?_; simp only [Act.put, List.setIfInBounds_toArray, List.set_cons_succ, List.set_cons_zero]) | (refine onlyD 16 rfl ?_; refine own_valV 16 rfl rfl rfl (.agg #[.int .i64 (fI L k 0), .int .i64 (fI L k 1), .int .i64 (fI L k 2), .int .i64 (fI L k 3), .int .i64 (fI L k 4), .int .i64 (fI L k 5), .int .i64 (fI L k 6), .int .i64 (fI L k 7)]) (run_ldO rfl (p := ⟨ab, ao + k * 8, none⟩) rfl (ld_row (HRD.out.own OW.out HB0.out) H8.out (by rw [HL.out]; omega))) ?_; simp only [Act.put, List.setIfInBounds_toArray, List.set_cons_succ, List.set_cons_zero]) | (refine onlyD 10 rfl ?_; refine own_allocV 10 25 rfl rfl rfl #[.int .i64 0, .int .i64 0, .int .i64 0, .int .i64 0, .int .i64 0, .int .i64 0, .int .i64 0, .int .i64 0] (fun _ => by kernel_rfl) OW OZ ?_; clear OW OZ; intro W g11 OW OZ; simp only [Act.put, List.setIfInBounds_toArray, List.set_cons_succ, List.set_cons_zero]) | (refine onlyO (.store 25 (.tmp 10) (.tmp 16)) rfl ?_; refine own_storeSub 3 0 25 (.tmp 10) (.tmp 16) rfl rfl rfl rfl [.int .i64 (fI L k 0), .int .i64 (fI L k 1), .int .i64 (fI L k 2), .int .i64 (fI L k 3), .int .i64 (fI L k 4), .int .i64 (fI L k 5), .int .i64 (fI L k 6), .int .i64 (fI L k 7)] rfl (Nat.le_of_ble_eq_true rfl) rfl (by kernel_rfl) #[.int .i64 (fI L k 0), .int .i64 (fI L k 1), .int .i64 (fI L k 2), .int .i64 (fI L k 3), .int .i64 (fI L k 4), .int .i64 (fI L k 5), .int .i64 (fI L k 6), .int .i64 (fI L k 7)] rfl _ rfl OW OZ ?_; clear OW OZ; intro W OW OZ; simp only [Act.put, List.setIfInBounds_toArray, List.set_cons_succ, List.set_cons_zero]))
      have hbk := HBD.out k (by omega)
      gi_wp2_with (first | (refine onlyD 17 rfl ?_; refine own_loadSubV 17 3 0 25 (.tmp 10) rfl rfl rfl rfl rfl [.int .i64 (fI L k 0), .int .i64 (fI L k 1), .int .i64 (fI L k 2), .int .i64 (fI L k 3), .int .i64 (fI L k 4), .int .i64 (fI L k 5), .int .i64 (fI L k 6), .int .i64 (fI L k 7)] rfl Try.underlying25 rfl (by kernel_rfl) OW ?_; simp only [Act.put, List.setIfInBounds_toArray, List.set_cons_succ, List.set_cons_zero]) | (refine onlyD 19 rfl ?_; refine own_loadSubV 19 0 0 23 (.tmp 6) rfl rfl rfl rfl rfl [.int .i64 q0, .int .i64 q1, .int .i64 q2, .int .i64 q3] rfl Try.underlying23 rfl (by kernel_rfl) OW ?_; simp only [Act.put, List.setIfInBounds_toArray, List.set_cons_succ, List.set_cons_zero]) | (refine onlyD 20 rfl ?_; refine own_loadRowV 20 1 41 (.tmp 7) rfl rfl rfl rfl rfl _ Try.underlying41 rfl (by rw [rawV_size, (show ((ovK L mode q0 q1 q2 q3 xs k)).length = 72 from (ovK_len L mode q0 q1 q2 q3 HX.out k))]; exact infoRaw) OW ?_; simp only [Act.put, List.setIfInBounds_toArray, List.set_cons_succ, List.set_cons_zero]))
      refine ⟨trivial, ?_⟩
      refine (callsIn_wide.2 (fapply_any (fI L k 0) (fI L k 1) (fI L k 2) (fI L k 3) (fI L k 4) (fI L k 5) (fI L k 6) (fI L k 7) mode q0 q1 q2 q3 (ovK L mode q0 q1 q2 q3 xs k) (show ((ovK L mode q0 q1 q2 q3 xs k)).length = 72 from (ovK_len L mode q0 q1 q2 q3 HX.out k)) (by omega) (by omega) _)).mono ?_
      rintro e Wg12 ⟨rfl, hbw⟩
      obtain ⟨g12, OW2, OZ2⟩ := own_call OW OZ hbw
      clear hbw OW OZ
      have OW := OW2
      have OZ := OZ2
      clear OW2 OZ2
      gi_wp2_with (first | (refine onlyO (.store 41 (.tmp 7) (.tmp 21)) rfl ?_; refine own_storeRow 1 41 (.tmp 7) (.tmp 21) rfl rfl rfl rfl (rawV (fapply (fI L k 0) (fI L k 1) (fI L k 2) (fI L k 3) (fI L k 4) (fI L k 5) (fI L k 6) (fI L k 7) mode q0 q1 q2 q3 (ovK L mode q0 q1 q2 q3 xs k))) rfl (by rw [rawV_size, rawV_size, (show ((fapply (fI L k 0) (fI L k 1) (fI L k 2) (fI L k 3) (fI L k 4) (fI L k 5) (fI L k 6) (fI L k 7) mode q0 q1 q2 q3 (ovK L mode q0 q1 q2 q3 xs k))).length = 72 from (fap_len (ovK_len L mode q0 q1 q2 q3 HX.out k))), (show ((ovK L mode q0 q1 q2 q3 xs k)).length = 72 from (ovK_len L mode q0 q1 q2 q3 HX.out k))]) (rawV_one _) (by rw [rawV_size, (show ((fapply (fI L k 0) (fI L k 1) (fI L k 2) (fI L k 3) (fI L k 4) (fI L k 5) (fI L k 6) (fI L k 7) mode q0 q1 q2 q3 (ovK L mode q0 q1 q2 q3 xs k))).length = 72 from (fap_len (ovK_len L mode q0 q1 q2 q3 HX.out k)))]; exact infoRaw) _ rfl OW OZ ?_; clear OW OZ; intro W OW OZ; simp only [Act.put, List.setIfInBounds_toArray, List.set_cons_succ, List.set_cons_zero]) | (refine onlyD 22 rfl ?_; refine own_valV 22 rfl rfl rfl (.int .i64 ((k : Int) + 1)) (run_binO (vx := .int .i64 (k : Int)) (vy := .int .i64 1) rfl rfl rfl (bin_add_in (by omega) (by omega))) ?_; simp only [Act.put, List.setIfInBounds_toArray, List.set_cons_succ, List.set_cons_zero]))
      go_roundw
      case rel => exact ⟨k + 1, by omega, by go_num, (by rw [show ovK L mode q0 q1 q2 q3 xs (k + 1) = fapply (fI L k 0) (fI L k 1) (fI L k 2) (fI L k 3) (fI L k 4) (fI L k 5) (fI L k 6) (fI L k 7) mode q0 q1 q2 q3 (ovK L mode q0 q1 q2 q3 xs k) by rw [ovK]]; exact OW.out.pre (Nat.le_of_eq HB0.out) 3 rfl)⟩
      case measure => (simp [intOf] <;> omega)
    have dhB10 := of_decide_eq_false hB10
    gi_wp2_with (first | (refine onlyD 23 rfl ?_; refine own_loadRowV 23 1 41 (.tmp 7) rfl rfl rfl rfl rfl _ Try.underlying41 rfl (by rw [rawV_size, (show ((ovK L mode q0 q1 q2 q3 xs k)).length = 72 from (ovK_len L mode q0 q1 q2 q3 HX.out k))]; exact infoRaw) OW ?_; simp only [Act.put, List.setIfInBounds_toArray, List.set_cons_succ, List.set_cons_zero]) | (refine onlyO (.store 41 (.tmp 8) (.tmp 23)) rfl ?_; refine own_storeRow 2 41 (.tmp 8) (.tmp 23) rfl rfl rfl rfl (rawV (ovK L mode q0 q1 q2 q3 xs k)) rfl (by rw [rawV_size, rawV_size, (show ((ovK L mode q0 q1 q2 q3 xs k)).length = 72 from (ovK_len L mode q0 q1 q2 q3 HX.out k)), (show (zero72).length = 72 from (show zero72.length = 72 from rfl))]) (rawV_one _) (by rw [rawV_size, (show ((ovK L mode q0 q1 q2 q3 xs k)).length = 72 from (ovK_len L mode q0 q1 q2 q3 HX.out k))]; exact infoRaw) _ rfl OW OZ ?_; clear OW OZ; intro W OW OZ; simp only [Act.put, List.setIfInBounds_toArray, List.set_cons_succ, List.set_cons_zero]))
    refine leaves_own [] _ (Nat.le_of_eq HB0.out) (by simpa using OW.out) ?_
    intro W' hO
    exact ⟨.agg (rawV (ovK L mode q0 q1 q2 q3 xs k)), results_ownRow hO 2 rfl rfl rfl Try.underlying41 rfl (by rw [rawV_size, (show ((ovK L mode q0 q1 q2 q3 xs k)).length = 72 from (ovK_len L mode q0 q1 q2 q3 HX.out k))]; exact infoRaw), (by rw [show k = n by omega]), hO.done HB0⟩
end Go.Proofs.Ytckhkagkpldoiaa
