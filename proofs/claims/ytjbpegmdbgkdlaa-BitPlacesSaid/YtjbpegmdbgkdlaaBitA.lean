/- The anchor of the statements of layer 3. -/
import Derived.Test.YtjbpegmdbgkdlaaBitC
namespace Go.Proofs.Ytjbpegmdbgkdlaa
open Go.RowKit Go.Shelf
attribute [local go_sem] Oper.semAt_some

theorem choose42 : choose 4 2 = [3, 5, 6, 9, 10, 12] := by decide +kernel

set_option maxRecDepth 100000 in
set_option maxHeartbeats 2000000 in
theorem anchor3_any (w : World) :
    Calls Try.prog 5 #[] w fun e w' => e = .returned (.bool true) ∧ Below w.heap.size w w' := by
  have p7 : pc 7 = 3 := by decide +kernel
  have hix : ∀ w, (Instr.index 37 (.agg #[.int .u8 3, .int .u8 5, .int .u8 6, .int .u8 9, .int .u8 10, .int .u8 12]) (.int .i64 0)).run Try.prog w = .ok (.int .u8 3) w := fun _ => by kernel_rfl
  have hi1 : ∀ w, (Instr.index 37 (.agg #[.int .u8 3, .int .u8 5, .int .u8 6, .int .u8 9, .int .u8 10, .int .u8 12]) (.int .i64 1)).run Try.prog w = .ok (.int .u8 5) w := fun _ => by kernel_rfl
  have hi2 : ∀ w, (Instr.index 37 (.agg #[.int .u8 3, .int .u8 5, .int .u8 6, .int .u8 9, .int .u8 10, .int .u8 12]) (.int .i64 2)).run Try.prog w = .ok (.int .u8 6) w := fun _ => by kernel_rfl
  have hi3 : ∀ w, (Instr.index 37 (.agg #[.int .u8 3, .int .u8 5, .int .u8 6, .int .u8 9, .int .u8 10, .int .u8 12]) (.int .i64 3)).run Try.prog w = .ok (.int .u8 9) w := fun _ => by kernel_rfl
  have hi4 : ∀ w, (Instr.index 37 (.agg #[.int .u8 3, .int .u8 5, .int .u8 6, .int .u8 9, .int .u8 10, .int .u8 12]) (.int .i64 4)).run Try.prog w = .ok (.int .u8 10) w := fun _ => by kernel_rfl
  have hi5 : ∀ w, (Instr.index 37 (.agg #[.int .u8 3, .int .u8 5, .int .u8 6, .int .u8 9, .int .u8 10, .int .u8 12]) (.int .i64 5)).run Try.prog w = .ok (.int .u8 12) w := fun _ => by kernel_rfl
  refine (callsIn_wide (n := 6)).1 ?_
  refine callsIn_of_wp_marks Try.func5 rfl trivial ?_ rfl
  simp only [Try.ntmps5, List.size_toArray, List.length_nil, Nat.reduceSub, Array.replicate_succ, Array.replicate_zero, List.push_toArray, List.append_toArray, List.nil_append, List.cons_append]
  gi_wp2_with fail
  refine ⟨trivial, ?_⟩
  refine (callsIn_wide.2 (weight16 7 7 rfl (by omega) _)).mono ?_
  rintro e w2 ⟨rfl, rfl⟩
  gi_wp2_with fail
  refine ⟨trivial, ?_⟩
  refine (callsIn_wide.2 (choose8_any _ _ _)).mono ?_
  rintro e w3 ⟨rfl, hw3⟩
  simp only [World.size_alloc] at hw3 ⊢
  obtain ⟨b0, hb0⟩ : ∃ b0, w.heap.size = b0 := ⟨_, rfl⟩
  have V0 : Blk w3 b0 4 #[.bool false] := by rw [hw3, ← hb0]; exact (((Blk.new w _ _).alloc _).alloc _).alloc _
  have V1 : Blk w3 (b0 + 1) 3 #[.int .i64 0] := by
    rw [hw3, ← hb0]; have h := ((Blk.new (w.alloc (.cells #[.bool false] 4)) 3 #[.int .i64 0]).alloc (.cells #[.int .i64 4] 3)).alloc (.cells #[.int .i64 2] 3)
    rw [World.size_alloc] at h; exact h
  have V2 : Blk w3 (b0 + 1 + 1) 3 #[.int .i64 4] := by
    rw [hw3, ← hb0]; have h := (Blk.new ((w.alloc (.cells #[.bool false] 4)).alloc (.cells #[.int .i64 0] 3)) 3 #[.int .i64 4]).alloc (.cells #[.int .i64 2] 3)
    rw [World.size_alloc, World.size_alloc] at h; exact h
  have V3 : Blk w3 (b0 + 1 + 1 + 1) 3 #[.int .i64 2] := by
    rw [hw3, ← hb0]; have h := (Blk.new (((w.alloc (.cells #[.bool false] 4)).alloc (.cells #[.int .i64 0] 3)).alloc (.cells #[.int .i64 4] 3)) 3 #[.int .i64 2])
    rw [World.size_alloc, World.size_alloc, World.size_alloc] at h; exact h
  have VB : Below b0 w w3 := by
    rw [hw3, ← hb0]; exact ((((Below.refl _ w).alloc (Nat.le_refl _) _).alloc (by simp) _).alloc (by simp; omega) _).alloc (by simp; omega) _
  have VZ : w3.heap.size = b0 + 4 := by rw [hw3, ← hb0]; simp only [World.size_alloc]
  rw [hb0]
  have HB0 := Lib.hid hb0
  clear hw3 hb0
  gi_wp2
  refine iter_law (n := 6) rfl (by omega) (gf := 19) (lb := #[.pointer (some ⟨b0 + 1 + 1 + 1, 0, none⟩), .pointer (some ⟨b0 + 1 + 1, 0, none⟩)]) rfl trivial (enters_of Try.func19 (by kernel_rfl) rfl)
    (choose8_iter (6 - 1) (by omega) (b0 + 1 + 1) (b0 + 1 + 1 + 1) 4 2 (by omega) (by omega)) ?hSt (fun _ h => h.elim) ?hKl (fun _ => rfl)
    (fun i U => Blk U (b0 + 1) 3 #[.int .i64 (i : Int)] ∧ Blk U b0 4 #[.bool false] ∧ Below b0 w U)
    (fun _ _ _ => False)
    ?hI (fun _ _ _ _ h _ => h.elim) ?h0 ?act1 ?assign ?body ?done (fun _ _ _ _ _ _ h _ => h.elim)
  case hSt =>
    intro U hU
    have s2 : U.heap[b0 + 1 + 1]? = w3.heap[b0 + 1 + 1]? := hU _ (by omega)
    have s3 : U.heap[b0 + 1 + 1 + 1]? = w3.heap[b0 + 1 + 1 + 1]? := hU _ (by omega)
    exact ⟨by rw [World.cell?_of_block s2]; exact V2.cell 0, by rw [World.cell?_of_block s3]; exact V3.cell 0⟩
  case hKl => rintro c (rfl | rfl) <;> omega
  case hI =>
    rintro i A B ⟨h1, h2, h3⟩ t
    exact ⟨t.heap (other_cells h1 (fun e => e)) h1, t.heap (other_cells h2 (fun e => e)) h2, h3.trans (t.below (by have := HB0.out; have := h3.size; omega) (fun b hb => by rcases hb with hb | hb; exact hb.elim; omega))⟩
  case h0 => exact ⟨V1, V0, VB⟩
  case assign =>
    intro l x W K hK
    gi_wp2
    exact hK
  case body =>
    rintro l i y U hy ⟨h1, h2, h3⟩
    rw [choose42] at hy
    have e1 := h1.cell 0
    have f1 := h1.frozen 0
    simp only [List.getElem?_toArray, List.getElem?_cons_zero] at e1
    have I1 := Lib.hid h1
    have I2 := Lib.hid h2
    have I3 := Lib.hid h3
    clear h1 h2 h3
    have fin : ∀ (j : Nat) (z : Int), j = i → z = (i : Int) + 1 → KeepsFrom w3.heap.size U (U.setCell ⟨b0 + 1, 0, none⟩ (.int .i64 z)) ∧ Keep (fun c => c = b0 + 1 + 1 ∨ c = b0 + 1 + 1 + 1) U (U.setCell ⟨b0 + 1, 0, none⟩ (.int .i64 z)) ∧
        Blk (U.setCell ⟨b0 + 1, 0, none⟩ (.int .i64 z)) (b0 + 1) 3 #[.int .i64 ((i + 1 : Nat) : Int)] ∧ Blk (U.setCell ⟨b0 + 1, 0, none⟩ (.int .i64 z)) b0 4 #[.bool false] ∧ Below b0 w (U.setCell ⟨b0 + 1, 0, none⟩ (.int .i64 z)) := by
      rintro j z rfl rfl
      exact ⟨(KeepsOthers.setCell _ _ _).from _, ⟨by show U.heap.size ≤ (U.heap.modify _ _).size; rw [Array.size_modify]; exact Nat.le_refl _, fun b hb => Below.heap_setCell U ⟨b0 + 1, 0, none⟩ _ b (by show b ≠ b0 + 1; omega)⟩, I1.out.set_ 0 _, I2.out.far (p := ⟨b0 + 1, 0, none⟩) (by show b0 ≠ b0 + 1; omega) _, I3.out.setCell (p := ⟨b0 + 1, 0, none⟩) (by show b0 ≤ b0 + 1; omega) _⟩
    have FIN := Lib.hid fin
    clear fin
    match i, y, hy with
    | 0, _, rfl => gi_wp2; exact FIN.out 0 _ rfl rfl
    | 1, _, rfl => gi_wp2; exact FIN.out 1 _ rfl rfl
    | 2, _, rfl => gi_wp2; exact FIN.out 2 _ rfl rfl
    | 3, _, rfl => gi_wp2; exact FIN.out 3 _ rfl rfl
    | 4, _, rfl => gi_wp2; exact FIN.out 4 _ rfl rfl
    | 5, _, rfl => gi_wp2; exact FIN.out 5 _ rfl rfl
    | i + 6, _, hy => cases hy
  case done =>
    rintro D U hD ⟨h1, h2, h3⟩ hK
    rw [choose42] at h1
    have e1 := h1.cell 0
    have e2 := h2.cell 0
    have f2 := h2.frozen 0
    simp only [List.getElem?_toArray, List.getElem?_cons_zero, List.length_cons, List.length_nil, Nat.reduceAdd] at e1 e2
    have I3 := Lib.hid h3
    have HK := Lib.hid hK
    clear h1 h2 h3 hK
    gi_wp2_with fail
    refine ⟨trivial, ?_⟩
    refine (callsIn_wide.2 (weight16 7 7 rfl (by omega) _)).mono ?_
    rintro e w2 ⟨rfl, rfl⟩
    gi_wp2
    have hKD := (KeepsOthers.setCell U ⟨b0, 0, none⟩ (.bool true)).same D _ HK.out rfl
    refine ⟨by simp, .inl ⟨_, _, rfl, run_takeDeferred hKD, ?_⟩⟩
    have hcell := cell_kept (World.cell?_setCell_same' U ⟨b0, 0, none⟩ (.bool true) (by rw [e2]; rfl)) (grownBy_putObj' _ D (.deferred none)) (fun r e => by cases e; exact ⟨_, hKD, rfl⟩)
    refine ⟨_, by simp [results, Try.results5, go_sem, hcell], rfl, ?_⟩
    have q := I3.out
    rw [← HB0.out] at q
    exact (q.setCell (p := ⟨b0, 0, none⟩) (by have := HB0.out; show w.heap.size ≤ b0; omega) _).trans (belowK_b (w := w) (Nat.le_refl _) _ D _ _ (by have := HB0.out; omega) hKD rfl rfl)
end Go.Proofs.Ytjbpegmdbgkdlaa
