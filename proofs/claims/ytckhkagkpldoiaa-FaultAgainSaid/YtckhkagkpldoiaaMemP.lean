/- Memory words that name this program's types: new byte slices; a block that is known whole. -/
import Derived.Test.YtckhkagkpldoiaaRows
import Derived.Test.YtckhkagkpldoiaaMem
import Derived.WalkKit
namespace Go.Proofs.Ytckhkagkpldoiaa
open Go.RowKit

def zeroB (n : Nat) : Array Value := madeCells #[.int .u8 0] n
theorem zeroB_size (n : Nat) : (zeroB n).size = n := size_madeCells _ _
theorem zeroB_get (n i : Nat) (h : i < n) : (zeroB n)[i]? = some (.int .u8 0) := by
  unfold zeroB madeCells
  rw [Array.getElem?_map, Array.getElem?_range, if_pos h, Option.map_some]
  have : i % (#[Value.int .u8 0] : Array Value).size = 0 := Nat.mod_one i
  rw [this]
  rfl
theorem infoU8 : (Try.prog.info? 5).map (fun i => (i.zero, i.size, i.bytes)) = some (some (.int .u8 0), 1, 1) := by kernel_rfl
theorem make_bytes (n : Nat) (hn : n ≤ 281474976710656) (w : World) :
    (Instr.makeSlice 151 (.int .i64 (n : Int)) (.int .i64 (n : Int))).run Try.prog w = .ok (.slice (some ⟨w.heap.size, 0, none⟩) n n) (w.alloc (.cells (zeroB n) 5)) := by
  obtain ⟨i0, hi, hz0, hz1, hz2⟩ := info_parts infoU8
  have h := run_make (P := Try.prog) 151 5 i0 (.int .u8 0) Try.underlying151 hi hz0 .i64 .i64 (n : Int) (n : Int) (by omega) (Int.le_refl _) (by rw [hz2]; omega) (by omega) (w := w)
  rw [hz1, Nat.mul_one] at h
  exact h

/-- Block g is just the cells cs of the element type t, none frozen. -/
def Blk (w : World) (g : Nat) (t : TypeId) (cs : Array Value) : Prop := w.heap[g]? = some (.cells cs t (0, 0))
section
variable {w w' : World} {g : Nat} {t : TypeId} {cs : Array Value}
theorem Blk.lt (h : Blk w g t cs) : g < w.heap.size := by
  rcases Nat.lt_or_ge g w.heap.size with hlt | hge
  · exact hlt
  · unfold Blk at h; rw [Array.getElem?_eq_none hge] at h; cases h
theorem Blk.cell (h : Blk w g t cs) (i : Nat) : w.cell? ⟨g, i, none⟩ = cs[i]? := cell_of_row w g i cs t (0, 0) h
theorem Blk.frozen (h : Blk w g t cs) (i : Nat) : w.frozen? ⟨g, i, none⟩ = false := by
  unfold Blk at h
  simp [World.frozen?, h]
theorem Blk.new (w : World) (t : TypeId) (cs : Array Value) : Blk (w.alloc (.cells cs t)) w.heap.size t cs := heap_alloc_new w _
theorem Blk.drewN (h : Blk w g t cs) (n : Nat) : Blk (w.drewN n) g t cs := h
theorem Blk.alloc (h : Blk w g t cs) (o : Obj) : Blk (w.alloc o) g t cs := (Below.heap_alloc w o g h.lt).trans h
theorem Blk.set_ (h : Blk w g t cs) (i : Nat) (u : Value) : Blk (w.setCell ⟨g, i, none⟩ u) g t (cs.setIfInBounds i u) := by
  unfold Blk at h ⊢
  simp [World.setCell, Array.getElem?_modify, h]
theorem Blk.far (h : Blk w g t cs) {p : Addr} (hp : g ≠ p.block) (u : Value) : Blk (w.setCell p u) g t cs := (Below.heap_setCell w p u g hp).trans h
theorem Blk.below {B : Nat} (h : Blk w g t cs) (hb : Below B w w') (hg : g < B) : Blk w' g t cs := (hb.block g hg).trans h
end
/-- A block of bytes reads as a list. -/
theorem RdB.ofBlk {w : World} {g : Nat} {t : TypeId} {cs : Array Value} {xs : List UInt8} (h : Blk w g t cs) (hx : ∀ k, k < xs.length → cs[k]? = some (.int .u8 ((xs.getD k 0).toNat : Int))) : RdB w (some ⟨g, 0, none⟩) xs := by
  intro k hk
  exact ⟨g, 0, rfl, h.lt, by rw [Nat.zero_add, h.cell, hx k hk]⟩
end Go.Proofs.Ytckhkagkpldoiaa
