/- append of bytes; slices.Grow, slices.Concat of two; shifts: walks. -/
import Derived.Test.YtdgflbbffimpkaaPolyH
import Derived.Shelf.Spec.SlicesGrow
import Derived.Laws.OwnMore
namespace Go.Proofs.Ytdgflbbffimpkaa
open Go.RowKit Go.Shelf
set_option linter.unusedVariables false
attribute [local go_sem] Oper.semAt_some

theorem run_app {B : Nat} {w : World} {v : Value} {xs ys : List UInt8} {A : Option Addr} {c : Nat} (hf : Fr B w v xs) (hr : RdB w A ys) (hA : A = none → c = 0) (hB : B ≤ w.heap.size) (hl : xs.length + ys.length ≤ 1000000) :
    ∃ v' w', (∀ ty, (Builtin.append_ #[52, 52] ty #[v, .slice A ys.length c]).run Try.prog w = .ok v' w') ∧ Fr B w' v' (xs ++ ys) ∧ Below B w w' := by
  obtain ⟨i0, hi, hz0, hz1, hz2⟩ := info_parts infoU8
  cases A with
  | none =>
    obtain rfl : ys = [] := by
      rcases Nat.eq_zero_or_pos ys.length with h | h
      · exact List.length_eq_zero_iff.1 h
      · obtain ⟨b, o, hA, _⟩ := hr 0 h; cases hA
    obtain rfl := hA rfl
    exact ⟨v, w, fun ty => run_append_owned_none (w := w) B 52 ty 5 i0 1 Try.underlying52 hi v xs.length (xs.map vU) hf, by rw [List.append_nil]; exact hf, Below.refl _ _⟩
  | some ad =>
    have h := fun ty => run_append_own (P := Try.prog) w B 52 ty 5 i0 (.int .u8 0) 1 1 Try.underlying52 hi hz0 hz1 hz2 rfl (by decide) v xs.length (xs.map vU) hf ad ys.length c (ys.map vU) (by simp) (fun j u hj => by
      rw [List.getElem?_map] at hj
      cases hy : ys[j]? with
      | none => rw [hy] at hj; cases hj
      | some y =>
        rw [hy] at hj
        obtain rfl := Option.some.inj hj
        obtain ⟨hlt, hye⟩ := List.getElem?_eq_some_iff.1 hy
        obtain ⟨b, o, hAe, _, hc⟩ := hr j hlt
        obtain rfl := Option.some.inj hAe
        have hadd : (⟨b, o, none⟩ : Addr).add j = ⟨b, o + j, none⟩ := by
          unfold Addr.add
          split
          · rename_i h0; subst h0; rfl
          · rfl
        rw [hadd, hc, List.getD_eq_getElem?_getD, hy]
        rfl) (fun u hu => by obtain ⟨y, _, rfl⟩ := List.mem_map.1 hu; rfl) (by unfold maxLen; omega) (by omega) hB
    obtain ⟨v', w', h1, h2, h3, _⟩ := h 0
    refine ⟨v', w', fun ty => h1, ?_, ?_⟩
    · unfold Fr
      rw [List.length_append, List.map_append]
      exact h2
    · have hlt := World.ownsRow.lt hf
      exact ⟨h3.os, h3.tape, h3.output, h3.size, fun b hb => h3.block b (by omega) (fun e => by have := (hlt b e.symm).1; omega)⟩
section
variable {F : Fence} {n : Nat} {P : Program} {ops : Array Oper} {Q : Exit → Act → World → Prop} {a : Act} {W W' : World} {rest : List Oper} {o : Oper}
theorem op_append [FreeF F] (T : TypeId) (s x : Operand) (ho : o.op = .call { callee := .builtin .append, args := #[s, x], argTypes := #[T, T] }) (hw : Region.wanted o (yielded ops a.tmps) = true) (v u v' : Value) (hs : a.eval s = v) (hx : a.eval x = u)
    (hr : ∀ ty, (Builtin.append_ #[T, T] ty #[v, u]).run P W = .ok v' W') (h : wpListIn F n P ops Q rest (a.put o.dst v') W') : wpListIn F n P ops Q (o :: rest) a W :=
  wpListIn_val hw (by unfold noDefer; rw [ho]) v' (by simp [execOp, ho, resolve, invoke, builtin, hs, hx, hr, Result.andThen]) h
end

end Go.Proofs.Ytdgflbbffimpkaa
