/- Slices whose elements are structs: rows of cells behind one another. No program in sight. -/
import Derived.Test.YtckhkagkpldoiaaLeaf
import Derived.Test.YtckhkagkpldoiaaSx
import Derived.Deep.Slices
namespace Go.Proofs.Ytckhkagkpldoiaa
open Go Go.ChangeShapes Go.WideShapes Go.RowKit Go.Deep

/-- A slice at A reads as these rows of n cells each. -/
def RdS (n : Nat) (w : World) (A : Option Addr) (rows : List (List Value)) : Prop :=
  ∀ (i : Nat) (r : List Value), rows[i]? = some r → r.length = n ∧ ∃ b o, A = some ⟨b, o, none⟩ ∧ b < w.heap.size ∧ ∀ (j : Nat) (v : Value), r[j]? = some v → w.cell? ⟨b, o + i * n + j, none⟩ = some v
section
variable {n : Nat} {w w' : World} {A : Option Addr} {rows : List (List Value)}
theorem RdS.nil : RdS n w A [] := fun i r h => by simp at h
theorem RdS.below (h : RdS n w A rows) (hb : Below w.heap.size w w') : RdS n w' A rows := fun i r hr => by
  obtain ⟨h1, b, o, hA, hlt, hc⟩ := h i r hr
  exact ⟨h1, b, o, hA, Nat.lt_of_lt_of_le hlt hb.size, fun j v hv => (hb.cell hlt).trans (hc j v hv)⟩
theorem RdS.own {B : Nat} {L : Objs} {W : World} (h : RdS n w A rows) (OW : Own B w L W) (HB : w.heap.size = B) : RdS n W A rows :=
  h.below (HB ▸ OW.below (Nat.le_of_eq HB.symm))
end
section
variable {P : Program} {w : World} {b off : Nat}
theorem run_loadVar_cells (ty : TypeId) (l : List Value) {d : TypeDesc} (hc : ∀ (j : Nat) (v : Value), l[j]? = some v → w.cell? ⟨b, off + j, none⟩ = some v) (hu : P.underlying ty = some d) (hd : (match d with | .struct _ | .array _ _ => true | _ => false) = true)
    (hi : (P.info? ty).map (·.size) = some l.length) : (loadVar ty ⟨b, off, none⟩).run P w = .ok (.agg l.toArray) w := by
  have h1 : (loadCells ⟨b, off, none⟩ l.length).run P w = .ok l.toArray w :=
    run_loadCells_list (P := P) w ⟨b, off, none⟩ l (fun j v hv => by
      have hadd : (⟨b, off, none⟩ : Addr).add j = ⟨b, off + j, none⟩ := by unfold Addr.add; split <;> simp_all
      rw [hadd]
      exact hc j v hv)
  cases hq : P.info? ty with
  | none => simp [hq] at hi
  | some i =>
    have hs : i.size = l.length := by simpa [hq] using hi
    have hagg : (isAgg ty).run P w = .ok true w := by
      unfold isAgg
      rw [Sem.run_bind, run_underlying hu w]
      cases d <;> simp_all
    simp [loadVar, Sem.run_bind, hagg, sizeOf, typeInfo, hq, hs, h1]
/-- The address of an element of a slice. -/
theorem run_idxS {t e : TypeId} {n len cap : Nat} {i : Nat} {k : IntKind} (ht : P.underlying t = some (.slice e)) (hs : (P.info? e).map (·.size) = some n) (hi : i < len) : (Instr.indexAt t (.slice (some ⟨b, off, none⟩) len cap) (.int k (i : Int))).run P w = .ok (.pointer (some ⟨b, off + i * n, none⟩)) w := by
  obtain ⟨f, hf⟩ : ∃ f, P.info? e = some f := by cases h : P.info? e <;> simp_all
  have hz : f.size = n := by simpa [hf] using hs
  have hadd : (⟨b, off, none⟩ : Addr).add (i * n) = ⟨b, off + i * n, none⟩ := by unfold Addr.add; split <;> simp_all
  simp [Instr.indexAt, run_underlying ht, asIntOf, Sem.run_bind, sizeOf, typeInfo, hf, hz, hi, hadd]
theorem run_lenS {t e ty : TypeId} {A : Option Addr} {len cap : Nat} (ht : P.underlying t = some (.slice e)) : (Builtin.len_ #[t] ty #[.slice A len cap]).run P w = .ok (.int .i64 (len : Int)) w := by
  simp [Builtin.len_, run_underlying ht, goInt]
end

section
variable {P : Program} {w : World} {o : Oper} {ρ : Operand → Value}
theorem run_lenO {x : Operand} {t e : TypeId} {A : Option Addr} {n c : Nat} (ho : o.op = .call { callee := .builtin .len, args := #[x], argTypes := #[t] }) (hx : ρ x = .slice A n c) (ht : P.underlying t = some (.slice e)) :
    (execOp ρ o).run P w = .ok (.value (.int .i64 (n : Int))) w := by
  unfold execOp
  simp [ho, resolve, invoke, builtin, hx, run_lenS (P := P) (w := w) ht]
theorem run_loadO {T : TypeId} {x : Operand} (ho : o.op = .load T x) {p : Addr} (hx : ρ x = .pointer (some p)) {v : Value} (hr : (loadVar T p).run P w = .ok v w) : (execOp ρ o).run P w = .ok (.value v) w := by
  unfold execOp
  simp only [ho, hx, Instr.loadAt, Instr.sureAddr, Sem.run_bind, Sem.run_pure, Result.andThen_ok, hr]
end
/-- New blocks of a round are forgotten. -/
theorem Own.pre {B : Nat} {base W : World} {L L' : Objs} (h : Own B base L W) (hB : base.heap.size ≤ B) (n : Nat) (hL : L.take n = L') : Own B base L' W := by
  subst hL
  have hm : ∀ x ∈ L.take n, x ∈ L := fun x hx => List.mem_of_mem_take hx
  refine ⟨fun x hx => h.obj x (hm x hx), h.nd.sublist (List.take_sublist n L), fun x hx => h.lo x (hm x hx), h.os, h.tape, h.output, h.size, fun b hb hn => h.far b hb fun x hx e => ?_⟩
  have := h.lo x hx
  omega

section
variable {H : Type} {enc : TypeId × Value → H} {P : Program} {w : World} {base : Nat} {spare : Nat → Bool} {held : Bool}
/-- A slice of structs of ints and bools, opened. -/
theorem open_rows {t e : TypeId} {A : Option Addr} {len cap : Nat} {d : DataW H} {p : List MemPlace} (n : Nat) {ls : List Leaf} (hl : leaves P n e = some ls) (hn : P.cellsOf e = ls.length) (h0 : 0 < ls.length) (ht : P.underlying t = some (.slice e))
    (h : DataW.Trod enc P w base spare held t (.slice A len cap) d p) : ∃ rows : List (List Value), rows.length = len ∧ (∀ r ∈ rows, CellsOk ls r) ∧ RdS ls.length w A rows ∧ len ≤ cap ∧ cap ≤ maxLen := by
  obtain ⟨fuel, hf⟩ := h
  rcases open_slice ht hf with ⟨hcs, _⟩ | ⟨a, l, c, m, n', D, Pl, hcs, _, hl1, hm, hmm, _, hx⟩
  · simp [Value.cells] at hcs
    obtain ⟨rfl, rfl, rfl⟩ := hcs
    exact ⟨[], rfl, by simp, RdS.nil, Nat.le_refl _, Nat.zero_le _⟩
  · simp [Value.cells] at hcs
    obtain ⟨rfl, rfl, rfl⟩ := hcs
    have hlm : len ≤ m := by rw [hmm]; split <;> omega
    obtain ⟨f, hfx⟩ := choose_lt (α := List Value) (n := len) (p := fun i cs => w.cells? base (a.add (i * P.cellsOf e)) (P.cellsOf e) = some cs ∧ CellsOk ls cs) fun i hi => by
      obtain ⟨cs', h1, h2⟩ := hx i (by omega)
      exact ⟨cs', h1, leaves_ok n e ls n' cs' _ hl h2⟩
    refine ⟨(List.range len).map f, by simp, fun r hr => ?_, fun i r hr => ?_, hl1, hm⟩
    · obtain ⟨i, hi, rfl⟩ := List.mem_map.1 hr
      exact (hfx i (List.mem_range.1 hi)).2
    · have hi : i < len := by have := (List.getElem?_eq_some_iff.1 hr).1; simpa using this
      rw [List.getElem?_map, List.getElem?_range hi] at hr
      simp only [Option.map_some, Option.some.injEq] at hr
      subst hr
      obtain ⟨h1, h2⟩ := hfx i hi
      obtain ⟨_, h3, h4⟩ := World.cells?_some h1
      refine ⟨h2.1, ?_⟩
      obtain ⟨b, o, spot⟩ := a
      have hc0 := h4 0 (by omega)
      have hf0 : (f i)[0]? = some ((f i)[0]'(by omega)) := List.getElem?_eq_getElem (by omega)
      rw [hf0] at hc0
      have hspot : spot = none := by
        obtain ⟨z1, z2⟩ := hfx 0 (by omega)
        have hz0 := (World.cells?_some z1).2.2 0 (by omega)
        have hzl := z2.1
        rw [List.getElem?_eq_getElem (show 0 < (f 0).length by omega)] at hz0
        have := World.cell?_spot hz0
        simpa [Addr.add] using this
      subst hspot
      have hadd : ∀ (x y : Nat), ((⟨b, o, none⟩ : Addr).add x).add y = ⟨b, o + x + y, none⟩ := fun x y => by
        unfold Addr.add
        split <;> split <;> simp_all
      refine ⟨b, o, rfl, ?_, fun j v hv => ?_⟩
      · rcases Nat.lt_or_ge b w.heap.size with hlt | hge
        · exact hlt
        · exfalso
          rw [hadd] at hc0
          simp [World.cell?, Array.getElem?_eq_none hge] at hc0
      · have hj : j < P.cellsOf e := by have := (List.getElem?_eq_some_iff.1 hv).1; omega
        have := h4 j hj
        rw [hadd, hn] at this
        rw [this, hv]
end
end Go.Proofs.Ytckhkagkpldoiaa
