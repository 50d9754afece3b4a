/- Memory operations, as this program's types have them. -/
import Derived.Test.YtckhkagkpldoiaaOwnI
namespace Go.Proofs.Ytckhkagkpldoiaa
open Go Go.RowKit
theorem naInt : ∀ w, (isAgg 3).run Try.prog w = .ok false w := fun _ => by kernel_rfl
theorem naBool : ∀ w, (isAgg 4).run Try.prog w = .ok false w := fun _ => by kernel_rfl
theorem naU8 : ∀ w, (isAgg 5).run Try.prog w = .ok false w := fun _ => by kernel_rfl
theorem szInt : (Try.prog.info? 3).map (·.size) = some 1 := by kernel_rfl
theorem szBool : (Try.prog.info? 4).map (·.size) = some 1 := by kernel_rfl
theorem szU8 : (Try.prog.info? 5).map (·.size) = some 1 := by kernel_rfl
theorem alInt : ∀ w : World, (Instr.alloc 3 true (.tuple #[])).run Try.prog w = .ok (.pointer (some ⟨w.heap.size, 0, none⟩)) (w.alloc (.cells #[.int .i64 0] 3)) := fun _ => by kernel_rfl
theorem alBool : ∀ w : World, (Instr.alloc 4 true (.tuple #[])).run Try.prog w = .ok (.pointer (some ⟨w.heap.size, 0, none⟩)) (w.alloc (.cells #[.bool false] 4)) := fun _ => by kernel_rfl
theorem alU8 : ∀ w : World, (Instr.alloc 5 true (.tuple #[])).run Try.prog w = .ok (.pointer (some ⟨w.heap.size, 0, none⟩)) (w.alloc (.cells #[.int .u8 0] 5)) := fun _ => by kernel_rfl
end Go.Proofs.Ytckhkagkpldoiaa
