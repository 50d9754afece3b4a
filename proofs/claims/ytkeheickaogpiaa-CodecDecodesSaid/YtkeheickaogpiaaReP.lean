/- Indices, slices of rows, rows of bytes and of ints. -/
import Derived.Test.YtkeheickaogpiaaReB
namespace Go.Proofs.Ytkeheickaogpiaa
open Go Go.RowKit Go.Shelf
section
variable {P : Program} {T e : TypeId} {x y : Operand} {w : World}
theorem bin_mul_nat {a b : Nat} (h : a * b < 9223372036854775808) : (sBin .mul T x y (.int .i64 (a : Int)) (.int .i64 (b : Int))).run P w = .ok (.int .i64 ((a * b : Nat) : Int)) w := by
  have h2 : ((a * b : Nat) : Int) < 9223372036854775808 := by omega
  have h3 := Int.natCast_nonneg (a * b)
  have e : ((a * b : Nat) : Int) = (a : Int) * (b : Int) := by push_cast; rfl
  rw [e] at h2 h3 ⊢
  exact bin_mul_in (P := P) (T := T) (x := x) (y := y) (w := w) (a := (a : Int)) (b := (b : Int)) (by omega) (by omega)
theorem bin_add_nat {a b : Nat} (h : a + b < 9223372036854775808) : (sBin .add T x y (.int .i64 (a : Int)) (.int .i64 (b : Int))).run P w = .ok (.int .i64 ((a + b : Nat) : Int)) w := by
  have := bin_add_in (P := P) (T := T) (x := x) (y := y) (w := w) (a := (a : Int)) (b := (b : Int)) (by omega) (by omega)
  rw [show ((a + b : Nat) : Int) = (a : Int) + (b : Int) by push_cast; rfl]
  exact this
theorem add_lit (g off m : Nat) : (⟨g, off, none⟩ : Addr).add m = ⟨g, off + m, none⟩ := by unfold Addr.add; split <;> simp_all
/-- What is seen of the types at once. -/
def sizB (P : Program) (e : TypeId) : Option Nat := (P.info? e).map (·.size)
theorem run_sizeOf {s : Nat} (h : sizB P e = some s) : (sizeOf e).run P w = .ok s w := by
  unfold sizB at h
  cases hq : P.info? e with
  | none => rw [hq] at h; cases h
  | some i =>
    rw [hq] at h
    simp only [Option.map_some, Option.some.injEq] at h
    simp [sizeOf, typeInfo, hq, h]
theorem idx_sl {g off n c k s : Nat} (hT : (P.underlying T, sizB P (P.elem T)) = (some (.slice (P.elem T)), some s)) (hk : k < n) : (Instr.indexAt T (.slice (some ⟨g, off, none⟩) n c) (.int .i64 (k : Int))).run P w = .ok (.pointer (some ⟨g, off + k * s, none⟩)) w := by
  rw [run_indexAt_slice w T _ n c .i64 (k : Int) (congrArg (·.1) hT), if_pos (by omega), run_sizeOf (congrArg (·.2) hT), Result.andThen_ok, Int.toNat_natCast, add_lit]
theorem idx_ar {g off k s N : Nat} (hT : (P.underlying T, P.arrayLen T, sizB P (P.elem T)) = (some (.array N (P.elem T)), N, some s)) (hk : k < N) : (Instr.indexAt T (.pointer (some ⟨g, off, none⟩)) (.int .i64 (k : Int))).run P w = .ok (.pointer (some ⟨g, off + k * s, none⟩)) w := by
  have h2 : P.arrayLen T = N := congrArg (·.2.1) hT
  rw [run_indexAt_array w T _ .i64 (k : Int) (by rw [h2]; exact congrArg (·.1) hT), h2, if_pos (by omega), run_sizeOf (congrArg (·.2.2) hT), Result.andThen_ok, Int.toNat_natCast, add_lit]
/-- A part of an array, from l to h. -/
theorem sl_ar {g l h s N : Nat} (hT : (P.underlying T, P.arrayLen T, sizB P (P.elem T)) = (some (.array N (P.elem T)), N, some s)) (h1 : l ≤ h) (h2 : h ≤ N) (h3 : l < N) : (Instr.sliceAt T (.pointer (some ⟨g, 0, none⟩)) (some (.int .i64 (l : Int))) (some (.int .i64 (h : Int))) none).run P w = .ok (.slice (some ⟨g, l * s, none⟩) (h - l) (N - l)) w := by
  have e1 : P.arrayLen T = N := congrArg (·.2.1) hT
  rw [run_sliceAt_array_lh w T ⟨g, 0, none⟩ (by rw [e1]; exact congrArg (·.1) hT) .i64 .i64 (l : Int) (h : Int) (by omega) (by omega) (by rw [e1]; omega), run_sizeOf (congrArg (·.2.2) hT), Result.andThen_ok]
  unfold slicedAt
  rw [e1, Int.toNat_natCast, Int.toNat_natCast, add_lit, Nat.zero_add, if_neg (by omega)]
theorem sl_arl {g l s N : Nat} (hT : (P.underlying T, P.arrayLen T, sizB P (P.elem T)) = (some (.array N (P.elem T)), N, some s)) (h3 : l < N) : (Instr.sliceAt T (.pointer (some ⟨g, 0, none⟩)) (some (.int .i64 (l : Int))) none none).run P w = .ok (.slice (some ⟨g, l * s, none⟩) (N - l) (N - l)) w := by
  have e1 : P.arrayLen T = N := congrArg (·.2.1) hT
  rw [run_sliceAt_array_l w T ⟨g, 0, none⟩ (by rw [e1]; exact congrArg (·.1) hT) .i64 (l : Int) (by omega) (by rw [e1]; omega), run_sizeOf (congrArg (·.2.2) hT), Result.andThen_ok]
  unfold slicedAt
  rw [e1, Int.toNat_natCast, add_lit, Nat.zero_add, if_neg (by omega)]
theorem sl_ara {g s N : Nat} (hT : (P.underlying T, P.arrayLen T, sizB P (P.elem T)) = (some (.array N (P.elem T)), N, some s)) (h3 : 0 < N) : (Instr.sliceAt T (.pointer (some ⟨g, 0, none⟩)) none none none).run P w = .ok (.slice (some ⟨g, 0, none⟩) N N) w := by
  have e1 : P.arrayLen T = N := congrArg (·.2.1) hT
  rw [run_sliceAt_array_all w T ⟨g, 0, none⟩ (by rw [e1]; exact congrArg (·.1) hT), run_sizeOf (congrArg (·.2.2) hT), Result.andThen_ok]
  unfold slicedAt
  rw [e1, add_lit, Nat.zero_mul, if_neg (by omega)]
  rfl
end
/-- Bytes and ints as cells. -/
def bV (xs : List UInt8) : List Value := xs.map fun b => .int .u8 (b.toNat : Int)
theorem rowZ_part {cs z : List Value} {r : Nat} : ((rowZ cs z r).toList.drop 0).take cs.length = cs := by unfold rowZ; rw [List.drop_zero, List.take_append_of_le_length (Nat.le_refl _), List.take_length]
theorem rawV_bV (xs : List UInt8) : rawV xs = (bV xs).toArray := rfl
section
variable {P : Program} {f : FuncId} {args : Array Value} {w' : World} {v : Value}
theorem Step.ofOwn {w w' : World} {N : Objs} (h : Own w.heap.size w N w') : Step [] N w w' :=
  ⟨h.os, h.tape, h.output, h.size, h.obj, fun x hx => .inr (h.lo x hx), h.nd, fun b hb _ => h.far b hb fun x hx e => by have := h.lo x hx; omega⟩
end
end Go.Proofs.Ytkeheickaogpiaa
