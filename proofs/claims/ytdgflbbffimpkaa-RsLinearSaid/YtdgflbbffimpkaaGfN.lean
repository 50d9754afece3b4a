/- What gf.New makes: one block with the field's tables; and the anchor of the statements of layer 1. -/
import Derived.Test.YtdgflbbffimpkaaGfW
import Derived.Test.YtdgflbbffimpkaaGfM
namespace Go.Proofs.Ytdgflbbffimpkaa
open Go.RowKit

/-- The block ahead of the first round. -/
def cells0 : Array Value := (List.replicate 255 (Value.int .u8 0) ++ List.replicate 256 (Value.int .i64 0)).toArray
/-- The block behind i rounds. -/
def cellsAt : Nat → Array Value
  | 0 => cells0
  | i + 1 => ((cellsAt i).setIfInBounds i (.int .u8 (gE i : Nat))).setIfInBounds (255 + gE i) (.int .i64 (i : Nat))
theorem cells0_size : cells0.size = 511 := by unfold cells0; rw [List.size_toArray, List.length_append, List.length_replicate, List.length_replicate]
theorem cellsAt_size (i : Nat) : (cellsAt i).size = 511 := by
  induction i with
  | zero => exact cells0_size
  | succ i ih => rw [cellsAt, Array.size_setIfInBounds, Array.size_setIfInBounds, ih]
theorem cellsAt_all : cellsAt 255 = fieldCells := by kernel_rfl
theorem zeroField (w : World) : (zeroValue 68).run Try.prog w = .ok (.agg cells0) w := by kernel_rfl
theorem boxField (w : World) : (Instr.box 68 (.agg cells0)).run Try.prog w = .ok (.pointer (some ⟨w.heap.size, 0, none⟩)) (w.alloc (.cells cells0 68)) := by kernel_rfl

theorem new_any (w : World) :
    Calls Try.prog 17 #[] w fun e w' => e = .returned (.pointer (some ⟨w.heap.size, 0, none⟩)) ∧ w' = w.alloc (.cells fieldCells 68) := by
  have hz := zeroField
  have hb := boxField
  go_enter Try.func17, Try.ntmps17
  go_wp2
  clear hz hb
  go_loopw [2, 6] (fun a i wr => ∃ k : Nat, k ≤ 255 ∧ i = .int .i64 k ∧ a = .int .u8 (gE (k % 255)) ∧ wr = w.alloc (.cells (cellsAt k) 68)) (fun _ i _ => 255 - (intOf i).toNat)
  case atStart => exact ⟨0, by omega, rfl, rfl, rfl⟩
  case round =>
    obtain ⟨k, hk, rfl, rfl, rfl⟩ := hrel
    by_cases hlt : k < 255
    · have hsz := cellsAt_size k
      have hE := (gE_pos k hlt).2
      have hx := xt_gE k hlt
      have ek : k % 255 = k := Nat.mod_eq_of_lt hlt
      have HE := Lib.hid ek
      rw [ek]
      clear ek
      obtain ⟨g, hg⟩ : ∃ g, gE k = g := ⟨_, rfl⟩
      rw [hg] at hE hx ⊢
      have HG := Lib.hid hg
      have HX := Lib.hid hx
      have HS := Lib.hid hsz
      clear hg hx hsz
      have i1 : (k : Int) < 255 := by omega
      have i2 : (g : Int) < 256 := by omega
      obtain ⟨W, hW⟩ : ∃ W, w.alloc (.cells (cellsAt k) 68) = W := ⟨_, rfl⟩
      have hB : W.heap[w.heap.size]? = some (.cells (cellsAt k) 68 (0, 0)) := by rw [← hW]; exact heap_alloc_new w _
      have c1 : ∃ v, W.cell? ⟨w.heap.size, k, none⟩ = some v := by
        rw [cell_of_row W _ k _ _ _ hB, Array.getElem?_eq_getElem (by rw [HS.out]; omega)]; exact ⟨_, rfl⟩
      have c2 : ∃ v, (W.setCell ⟨w.heap.size, k, none⟩ (.int .u8 g)).cell? ⟨w.heap.size, 255 + g, none⟩ = some v := by
        rw [World.cell?_setCell_other _ _ _ _ (by intro h; injection h with _ h; omega), cell_of_row W _ (255 + g) _ _ _ hB, Array.getElem?_eq_getElem (by rw [HS.out]; omega)]; exact ⟨_, rfl⟩
      have f1 : ∀ j, W.frozen? ⟨w.heap.size, j, none⟩ = false := by intro j; simp [World.frozen?, hB]
      obtain ⟨v1, c1⟩ := c1
      obtain ⟨v2, c2⟩ := c2
      have f1a := f1 k
      have f1b := f1 (255 + g)
      rw [hW]
      have HW := Lib.hid hW
      clear hW hB f1
      go_wp2_with fail
      refine (twice_any g hE _).mono ?_
      rintro e w1 ⟨rfl, rfl⟩
      go_wp2
      go_roundw
      case rel =>
        refine ⟨k + 1, by omega, by go_num, by rw [HX.out], ?_⟩
        rw [← HW.out, World.setCell_alloc_at _ _ _ _ _ rfl, World.setCell_alloc_at _ _ _ _ _ rfl, cellsAt, HG.out]
      case measure => simp [intOf]; omega
    · obtain rfl : k = 255 := by omega
      rw [cellsAt_all]
      go_wp2
      go_ret
      exact ⟨rfl, rfl⟩

theorem FieldAt.new (w : World) : FieldAt (w.alloc (.cells fieldCells 68)) w.heap.size := heap_alloc_new w _

end Go.Proofs.Ytdgflbbffimpkaa
