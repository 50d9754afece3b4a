/- Multiples and sums of polynomials: walks. -/
import Derived.Test.YtdgflbbffimpkaaPolyB
import Derived.Test.YtdgflbbffimpkaaQTail
import Derived.TacticsInMore
import Derived.LoopNIn
import Derived.LoopIn
namespace Go.Proofs.Ytdgflbbffimpkaa
open Go.RowKit Go.Shelf
set_option linter.unusedVariables false
attribute [local go_sem] Oper.semAt_some

section
variable {F : Fence} {n : Nat} {P : Program} {ops : Array Oper} {Q : Exit → Act → World → Prop} {a : Act} {W W' : World} {rest : List Oper} {o : Oper} {B G : Nat} {base : World} {L : Objs}
/-- A new slice. -/
theorem own_make [FreeF F] (T E : TypeId) (x : Operand) (ho : o.op = .makeSlice T x x) (hw : Region.wanted o (yielded ops a.tmps) = true) (m : Nat) (hx : a.eval x = .int .i64 (m : Int)) (cs : Array Value)
    (hr : ∀ w : World, (Instr.makeSlice T (.int .i64 (m : Int)) (.int .i64 (m : Int))).run P w = .ok (.slice (some ⟨w.heap.size, 0, none⟩) m m) (w.alloc (.cells cs E)))
    (OW : Hid (Own B base L W)) (OZ : Hid (W.heap.size = G ∧ B ≤ G)) (h : ∀ W2 : World, Hid (Own B base (L ++ [(G, .cells cs E (0, 0))]) W2) → Hid (W2.heap.size = G + 1 ∧ B ≤ G + 1) → wpListIn F n P ops Q rest (a.put o.dst (.slice (some ⟨G, 0, none⟩) m m)) W2) : wpListIn F n P ops Q (o :: rest) a W := by
  obtain ⟨z1, z2⟩ := OZ
  subst z1
  refine wpListIn_val hw (by unfold noDefer; rw [ho]) (.slice (some ⟨W.heap.size, 0, none⟩) m m) (W' := W.alloc (.cells cs E)) (by unfold execOp; simp only [ho, hx, Sem.run_bind, hr, Result.andThen_ok, Sem.run_pure]) ?_
  exact h _ (OW.alloc z2 _) ⟨by simp, by omega⟩
end
theorem makeRow (n : Nat) (hn : n ≤ 281474976710656) (w : World) : (Instr.makeSlice 52 (.int .i64 (n : Int)) (.int .i64 (n : Int))).run Try.prog w = .ok (.slice (some ⟨w.heap.size, 0, none⟩) n n) (w.alloc (.cells (rowV (List.replicate n 0) []) 5)) := by
  rw [← zeroB_row]; exact make_bytes n hn w
theorem ofF_zero (n : Nat) (f : Nat → UInt8) (h : ∀ i, i < n → f i = 0) : ofF n f = List.replicate n 0 := by
  refine list_ext (by rw [ofF_len, List.length_replicate]) fun i hi => ?_
  rw [ofF_len] at hi
  rw [co_ofF, if_pos hi, h i hi]
  simp [co, hi]
theorem ofF_congr {n : Nat} {f g : Nat → UInt8} (h : ∀ i, i < n → f i = g i) : ofF n f = ofF n g := by
  unfold ofF
  exact List.map_congr_left fun i hi => h i (List.mem_range.1 hi)
theorem co_set {xs : List UInt8} {k i : Nat} {v : UInt8} (hk : k < xs.length) : co (xs.set k v) i = if i = k then v else co xs i := by
  unfold co
  rw [List.getD_eq_getElem?_getD, List.getD_eq_getElem?_getD, List.getElem?_set]
  by_cases e : i = k
  · subst e; simp [hk]
  · rw [if_neg (Ne.symm e), if_neg e]


/-- The multiples of the first k. -/
def scTo (p : List UInt8) (a : UInt8) (k : Nat) : List UInt8 := ofF p.length fun i => if i < k then gm a (co p i) else 0
theorem scTo_len (p : List UInt8) (a : UInt8) (k : Nat) : (scTo p a k).length = p.length := ofF_len _ _
theorem scTo_succ (p : List UInt8) (a : UInt8) (k : Nat) : (scTo p a k).set k (gm a (co p k)) = scTo p a (k + 1) :=
  ofF_succ_set _ _ _ _ _ fun i _ => by
    by_cases e : i = k
    · subst e; rw [if_pos (by omega), if_pos rfl]
    · rw [if_neg e]
      by_cases h : i < k
      · rw [if_pos (by omega), if_pos h]
      · rw [if_neg (by omega), if_neg h]
theorem scTo_all (p : List UInt8) (a : UInt8) : trimL (scTo p a p.length) = scaleL p a := by
  unfold scaleL scTo
  rw [ofF_congr fun i hi => if_pos hi]

end Go.Proofs.Ytdgflbbffimpkaa
