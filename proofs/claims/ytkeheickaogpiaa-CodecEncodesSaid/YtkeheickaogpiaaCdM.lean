/- The reference's decoding of a word of chips. -/
import Derived.Test.YtkeheickaogpiaaCdK
import Derived.Test.YtkeheickaogpiaaRsG
import Derived.WalkKit
import Derived.Sort.CutIn
import Derived.IntWalk
namespace Go.Proofs.Ytkeheickaogpiaa
open Go Go.RowKit Go.Shelf
attribute [local go_sem] Oper.semAt_some
set_option linter.unusedVariables false
set_option linter.unusedSimpArgs false


theorem fillL_self {L : List UInt8} {N : Nat} (h : L.length = N) : fillL N (fun i => L.getD i 0) N = L := by
  refine list_ext (by rw [fillL_len, h]) fun i hi => ?_
  rw [fillL_len] at hi
  show (fillL N _ N).getD i 0 = L.getD i 0
  rw [fillL_get hi, if_pos hi]
theorem fill36 {r : List UInt8} (hr : r.length = 72) {q : Nat} (hq : q < 2) : fillL 36 (fun i => r.getD (36 * q + i) 0) 36 = w36 r q := by
  rw [fillL_congr (g := fun i => (w36 r q).getD i 0) fun i _ hi => ?_]
  · exact fillL_self (w36_len hr hq)
  · show r.getD (36 * q + i) 0 = ((r.drop (36 * q)).take 36).getD i 0
    rw [List.getD_eq_getElem?_getD, List.getD_eq_getElem?_getD, List.getElem?_take_of_lt hi, List.getElem?_drop]
/-- The document's values of a word. -/
def vLs (u : List UInt8) : List UInt8 := [evalL u 1, evalL u 2, evalL u 4, evalL u 8]
theorem vLs_syn (w v : List UInt8) : vLs (w ++ v) = synL w v := by
  unfold vLs synL synF
  rw [show ofF 4 (fun j => evalL (w ++ v) (pw 2 j)) = [evalL (w ++ v) (pw 2 0), evalL (w ++ v) (pw 2 1), evalL (w ++ v) (pw 2 2), evalL (w ++ v) (pw 2 3)] from rfl]
  rw [show pw 2 0 = 1 from rfl, show pw 2 1 = 2 by decide +kernel, show pw 2 2 = 4 by decide +kernel, show pw 2 3 = 8 by decide +kernel]
theorem rvals_any (w v : List UInt8) (hw : w.length = 36) (hv : v.length = 3) (W : World) : Calls Try.prog 39 #[.agg (rB 39 (w ++ v)).toArray] W fun e w' => e = .returned (.agg (rB 4 (synL w v)).toArray) ∧ Below W.heap.size W w' := by
  have hl : (w ++ v).length = 39 := by rw [List.length_append, hw, hv]
  rw [rB_raw hl, rB_raw (synL_len w v), ← vLs_syn]
  exact refValues_any (w ++ v) hl W
theorem rword5_any (w v : List UInt8) (hw : w.length = 36) (hv : v.length = 3) (W : World) : Calls Try.prog 40 #[.agg (rB 36 w).toArray, .agg (rB 3 v).toArray] W fun e w' => e = .returned (.agg (rB 39 (w ++ v)).toArray) ∧ Below W.heap.size W w' := by
  have hl : (w ++ v).length = 39 := by rw [List.length_append, hw, hv]
  rw [rB_raw hl, rB_raw hw, rB_raw hv]
  exact refWord_any w v hw hv W
end Go.Proofs.Ytkeheickaogpiaa
