/- hsiao's Columns: its maker, and its iterator's contract. -/
import Derived.Test.YtbhonojfglhbeaaHsA
import Derived.Test.YtbhonojfglhbeaaGrw
import Derived.Shelf.Abstract
import Derived.OwnWalkIn
import Derived.TacticsInMore
import Derived.LoopNIn
import Derived.LoopIn
namespace Go.Proofs.Ytbhonojfglhbeaa
open Go.RowKit Go.Shelf
attribute [local go_sem] Oper.semAt_some

theorem columns_any (g : Nat) (w : World) :
    Calls Try.prog 17 #[.pointer (some ⟨g, 0, none⟩)] w fun e w' =>
      e = .returned (.func (.func 28) #[] #[.pointer (some ⟨w.heap.size, 0, none⟩)]) ∧ w' = w.alloc (.cells #[.pointer (some ⟨g, 0, none⟩)] 23) := by
  go_enter Try.func17, Try.ntmps17
  go_wp2
  go_ret
  exact ⟨rfl, rfl⟩

theorem elem74 : Try.prog.underlying 41 = some (.array 74 5) := by kernel_rfl
theorem index74 (i : Nat) (hi : i < 74) (w : World) : (Instr.index 41 (.agg colsV) (.int .i64 (i : Int))).run Try.prog w = .ok (.int .u8 (col i : Nat)) w := by
  have hs : ∀ w, (sizeOf 5).run Try.prog w = .ok 1 w := fun w => by kernel_rfl
  have ha : ∀ w, (isAgg 5).run Try.prog w = .ok false w := fun w => by kernel_rfl
  have hc := colsV_get hi
  simp [Instr.index, asIntOf, run_underlying elem74, Sem.run_bind, Result.andThen, hs, part, ha, hc]
  omega
theorem loads74 {w : World} {g : Nat} (h : CodeAt w g) : (loadVar 41 ⟨g, 0, none⟩).run Try.prog w = .ok (.agg colsV) w := by
  have hl := run_loadCells_list (P := Try.prog) (w := w) ⟨g, 0, none⟩ colsV.toList (fun j v hv => by
    have hadd : (⟨g, 0, none⟩ : Addr).add j = ⟨g, j, none⟩ := by unfold Addr.add; split <;> simp_all
    have hj : j < 74 := by
      have := (List.getElem?_eq_some_iff.1 hv).1
      rw [Array.length_toList, show colsV.size = 74 from colsAt_size (Nat.le_refl _)] at this; exact this
    rw [hadd, h.col hj, ← hv, Array.getElem?_toList, colsV_get hj])
  rw [Array.length_toList, show colsV.size = 74 from colsAt_size (Nat.le_refl _), Array.toArray_toList] at hl
  have ha : ∀ w, (isAgg 41).run Try.prog w = .ok true w := fun w => by kernel_rfl
  have hs : ∀ w, (sizeOf 41).run Try.prog w = .ok 74 w := fun w => by kernel_rfl
  unfold loadVar
  rw [Sem.run_bind, ha]
  simp only [Result.andThen_ok, if_true, Sem.run_bind, hs, hl, Sem.run_pure]

def colList : List (Nat × Nat) := (List.range 74).map fun i => (i, col i)
theorem colList_get {i : Nat} (h : i < 74) : colList[i]? = some (i, col i) := by unfold colList; rw [List.getElem?_map, List.getElem?_range h]; rfl
theorem colList_len : colList.length = 74 := by unfold colList; rw [List.length_map, List.length_range]
set_option maxRecDepth 100000 in
set_option maxHeartbeats 1000000 in
theorem columns_iter (m : Nat) (h1 : 1 ≤ m) (bx g : Nat) :
    Iter3 Fence.wide m Try.prog 28 #[.pointer (some ⟨bx, 0, none⟩)]
      (fun p : Nat × Nat => #[.int .i64 (p.1 : Int), .int .u8 (p.2 : Int)]) colList (fun _ => False) (fun _ => False)
      (fun W => W.cell? ⟨bx, 0, none⟩ = some (.pointer (some ⟨g, 0, none⟩)) ∧ CodeAt W g) := by
  intro l J Jx W O hSt hJ hJx hS hO hY h0
  obtain ⟨s1, s2⟩ := hSt
  have hl := loads74 s2
  have HIX := Lib.hid index74
  obtain ⟨cv, hcv⟩ : ∃ cv, colsV = cv := ⟨_, rfl⟩
  rw [hcv] at hl HIX
  have HY := Lib.hid hY
  have H0 := Lib.hid h0
  clear hY hJ hJx h0 s2 hS hO hcv
  refine callsIn_of_wp Try.func28 rfl trivial ?_ rfl
  simp only [Try.ntmps28, List.size_toArray, List.length_cons, List.length_nil, Nat.reduceAdd, Nat.reduceSub, Array.replicate_succ, Array.replicate_zero, List.push_toArray, List.append_toArray, List.nil_append, List.cons_append]
  gi_wp2_with (refine wpListIn_load_at rfl 41 (.tmp 7) rfl ⟨g, 0, none⟩ rfl (.agg cv) hl ?_)
  clear hl
  gi_loopw [9] (fun i wr => ∃ j : Nat, ∃ O1 : Nat → Prop, j ≤ 74 ∧ i = .int .i64 j ∧ J j O1 wr ∧ W.heap.size ≤ wr.heap.size) (fun i _ => 74 - (intOf i).toNat)
  case atStart => exact ⟨0, O, by omega, rfl, H0.out, Nat.le_refl _⟩
  case round =>
    obtain ⟨j, O1, hj, rfl, hJ, hsz⟩ := hrel
    by_cases hlt : j < 74
    · have hix := HIX.out j hlt
      have hg := colList_get hlt
      obtain ⟨fn, tmps, assign, body, hy, hR⟩ := HY.out j (j, col j) O1 wr hg hJ hsz
      obtain ⟨c, hc⟩ : ∃ c, col j = c := ⟨_, rfl⟩
      rw [hc] at hix
      simp only [hc] at hy
      have HSZ := Lib.hid hsz
      clear hg hJ hc hsz
      gi_wp2
      refine hR.mono ?_
      rintro e W3 ⟨O3, hgr, (⟨rfl, hJ3⟩ | ⟨rfl, hJ3⟩)⟩
      · have HJ3 := Lib.hid hJ3
        have HGR := Lib.hid hgr.size
        clear hJ3 hgr hy hR hix
        gi_wp2
        go_roundw
        case rel => exact ⟨j + 1, O3, by omega, by go_num, HJ3.out, Nat.le_trans HSZ.out HGR.out⟩
        case measure => simp [intOf]; omega
      · have HJ3 := Lib.hid hJ3
        clear hJ3 hgr hy hR hix
        gi_wp2
        refine bodyPost_ret (results_none rfl _ _ _) rfl ?_
        exact ⟨⟨_, rfl⟩, .inr ⟨j, by rw [colList_len]; exact hlt, O3, HJ3.out⟩⟩
    · obtain rfl : j = 74 := by omega
      rw [show ((74 : Nat) : Int) = 74 from rfl]
      have HJ := Lib.hid hJ
      clear hJ hsz
      gi_wp2
      go_end0
      exact ⟨⟨_, rfl⟩, .inl ⟨O1, by rw [colList_len]; exact HJ.out⟩⟩
end Go.Proofs.Ytbhonojfglhbeaa
