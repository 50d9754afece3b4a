/- Whole raw bytes loaded, wherever the walk stands: one rewriting rule, which asks for a fact 'rowAt W g = some cs'. -/
import Derived.Test.YtckhkagkpldoiaaRawD
namespace Go.Proofs.Ytckhkagkpldoiaa
open Go.RowKit

def rowAt (W : World) (a : Addr) : Option (Array Value) := match a with
  | ⟨g, 0, none⟩ => (match W.heap[g]? with
    | some (.cells cs _ (0, 0)) => if cs.size = 72 then some cs else none
    | _ => none)
  | _ => none
def slowVar (t : TypeId) (a : Addr) : Sem Value := loadVar t a
theorem load_row_down (W : World) (a : Addr) : (loadVar 41 a).run Try.prog W = match rowAt W a with
    | some cs => .ok (.agg cs) W
    | none => (slowVar 41 a).run Try.prog W := by
  cases h : rowAt W a with
  | none => rfl
  | some cs =>
    unfold rowAt at h
    split at h
    · split at h
      · rename_i g _ cs' t hc
        split at h
        · rename_i hs
          cases h
          have hi : (Try.prog.info? 41).map (·.size) = some cs.size := by rw [hs]; exact infoRaw
          exact run_loadVar_row (P := Try.prog) W g t 41 cs (0, 0) _ hc Try.underlying41 rfl hi
        · cases h
      · cases h
    · cases h
theorem Blk.row {W : World} {g : Nat} {t : TypeId} {cs : Array Value} (h : Blk W g t cs) (hs : cs.size = 72) : rowAt W ⟨g, 0, none⟩ = some cs := by
  unfold rowAt
  simp only [show W.heap[g]? = some (.cells cs t (0, 0)) from h]
  exact if_pos hs
theorem load_var_step {P : Program} (t : TypeId) (W : World) (a : Addr) : (loadVar t a).run P W = ((isAgg t).run P W).andThen fun b w' => if b then ((sizeOf t).run P w').andThen (fun n w2 => ((loadCells a n).run P w2).andThen fun cs w3 => .ok (.agg cs) w3) else (load a).run P w' := by
  unfold loadVar
  rw [Sem.run_bind]
  congr 1
  funext b w'
  cases b <;> simp [Sem.run_bind]
end Go.Proofs.Ytckhkagkpldoiaa
