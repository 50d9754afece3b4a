/- Several texts in one: Leaf SRows. -/
import Derived.WideShapes
import Derived.OpenShut
import Derived.WideOpen
import Derived.Deep.Slices
import Derived.Test.YtdglhppcfdpcaaaOvX
namespace Go.Proofs.Ytdglhppcfdpcaaa
open Go Go.ChangeShapes Go.WideShapes Go.RowKit Go.Deep

inductive Leaf where
  | int (k : IntKind)
  | bool
/-- A cell reads as a leaf. -/
def LeafOk : Leaf → Value → Prop
  | .int k, v => ∃ z : Int, v = .int k z ∧ (Lit.int k z).wf = true
  | .bool, v => ∃ b : Bool, v = .bool b
def structLeaves (P : Program) (r : TypeId → Option (List Leaf)) : Nat → List Field → Option (List Leaf)
  | _, [] => some []
  | off, f :: fs => match r f.type with
    | none => none
    | some l => if f.offset == off && P.cellsOf f.type == l.length then (structLeaves P r (off + l.length) fs).map fun m => l ++ m else none
def leaves (P : Program) : Nat → TypeId → Option (List Leaf)
  | 0, _ => none
  | n + 1, t => match P.underlying t with
    | some .bool => some [.bool]
    | some (.int k) => some [.int k]
    | some (.struct fs) => match structLeaves P (leaves P n) 0 fs.toList with
      | some l => if P.cellsOf t == l.length then some l else none
      | none => none
    | some (.array m e) => match leaves P n e with
      | some l => if P.cellsOf e == l.length && P.cellsOf t == m * l.length then some (List.replicate m l).flatten else none
      | none => none
    | _ => none
def CellsOk (ls : List Leaf) (cs : List Value) : Prop := cs.length = ls.length ∧ ∀ (i : Nat) (lf : Leaf), ls[i]? = some lf → ∃ v, cs[i]? = some v ∧ LeafOk lf v
theorem CellsOk.append {l m : List Leaf} {cs : List Value} {k : Nat} (hk : k = l.length) (h1 : CellsOk l (cs.take k)) (h2 : CellsOk m (cs.drop k)) : CellsOk (l ++ m) cs := by
  subst hk
  obtain ⟨a1, a2⟩ := h1
  obtain ⟨b1, b2⟩ := h2
  rw [List.length_take] at a1
  rw [List.length_drop] at b1
  refine ⟨by rw [List.length_append]; omega, fun i lf h => ?_⟩
  rcases Nat.lt_or_ge i l.length with hi | hi
  · rw [List.getElem?_append_left hi] at h
    obtain ⟨v, e1, e2⟩ := a2 i lf h
    rw [List.getElem?_take_of_lt hi] at e1
    exact ⟨v, e1, e2⟩
  · rw [List.getElem?_append_right hi] at h
    obtain ⟨v, e1, e2⟩ := b2 _ lf h
    rw [List.getElem?_drop, show l.length + (i - l.length) = i by omega] at e1
    exact ⟨v, e1, e2⟩

section
variable {H : Type} {enc : TypeId × Value → H} {P : Program} {w : World} {base : Nat} {spare : Nat → Bool} {held : Bool}
theorem fields_ok {r : TypeId → Option (List Leaf)} {m : Nat} (hr : ∀ t ls cs x, r t = some ls → DataW.trod enc P w base spare held m t cs = some x → CellsOk ls cs) :
    ∀ (fs : List Field) (off : Nat) (ls : List Leaf) (cs : List Value), structLeaves P r off fs = some ls → off + ls.length = cs.length →
      (∀ (i : Nat) (f : Field), fs[i]? = some f → ∃ x, DataW.trod enc P w base spare held m f.type ((cs.drop f.offset).take (P.cellsOf f.type)) = some x) → CellsOk ls (cs.drop off)
  | [], off, ls, cs, h, hl, _ => by
    simp only [structLeaves, Option.some.injEq] at h
    subst h
    exact ⟨by simp at hl ⊢; omega, fun i lf h => by simp at h⟩
  | f :: fs, off, ls, cs, h, hl, hf => by
    unfold structLeaves at h
    cases hrf : r f.type with
    | none => rw [hrf] at h; cases h
    | some l =>
      rw [hrf] at h
      simp only at h
      split at h
      · rename_i hc
        simp only [Bool.and_eq_true, beq_iff_eq] at hc
        cases hs : structLeaves P r (off + l.length) fs with
        | none => rw [hs] at h; cases h
        | some m' =>
          rw [hs] at h
          simp only [Option.map_some, Option.some.injEq] at h
          subst h
          rw [List.length_append] at hl
          obtain ⟨x, hx⟩ := hf 0 f rfl
          rw [hc.1, hc.2] at hx
          have h1 := hr _ _ _ _ hrf hx
          have h2 := fields_ok hr fs (off + l.length) m' cs hs (by omega) fun i g hg => hf (i + 1) g (by simpa using hg)
          exact CellsOk.append rfl h1 (by rw [List.drop_drop]; exact h2)
      · cases h
theorem rows_ok {r : List Value → Prop} {l : List Leaf} (hr : ∀ cs, r cs → CellsOk l cs) : ∀ (m : Nat) (cs : List Value), cs.length = m * l.length → (∀ i, i < m → r ((cs.drop (i * l.length)).take l.length)) → CellsOk (List.replicate m l).flatten cs
  | 0, cs, h, _ => by
    have : cs = [] := List.eq_nil_of_length_eq_zero (by omega)
    subst this
    exact ⟨rfl, fun i lf h => by simp at h⟩
  | m + 1, cs, h, hi => by
    rw [List.replicate_succ, List.flatten_cons]
    have h1 := hr _ (hi 0 (by omega))
    rw [Nat.zero_mul, List.drop_zero] at h1
    refine CellsOk.append rfl h1 (rows_ok hr m _ (by rw [List.length_drop, h, Nat.succ_mul]; omega) fun i h2 => ?_)
    have h3 := hi (i + 1) (by omega)
    rw [List.drop_drop]
    rwa [show (i + 1) * l.length = l.length + i * l.length by rw [Nat.succ_mul]; omega] at h3
/-- All leaves of a value that was read. -/
theorem leaves_ok : ∀ (n : Nat) (t : TypeId) (ls : List Leaf) (fuel : Nat) (cs : List Value) (x : DataW H × List MemPlace), leaves P n t = some ls → DataW.trod enc P w base spare held fuel t cs = some x → CellsOk ls cs
  | 0, _, _, _, _, _, h, _ => by simp [leaves] at h
  | n + 1, t, ls, fuel, cs, x, h, hx => by
    unfold leaves at h
    cases hu : P.underlying t with
    | none => rw [hu] at h; cases h
    | some d =>
      rw [hu] at h
      cases d with
      | bool =>
        simp only [Option.some.injEq] at h
        subst h
        obtain ⟨b, rfl, _⟩ := DataW.trod_bool hu hx
        exact ⟨rfl, fun i lf h => by
          cases i with
          | zero => simp only [List.getElem?_cons_zero, Option.some.injEq] at h; subst h; exact ⟨_, rfl, b, rfl⟩
          | succ i => simp at h⟩
      | int k =>
        simp only [Option.some.injEq] at h
        subst h
        obtain ⟨z, rfl, _, hz⟩ := DataW.trod_int hu hx
        exact ⟨rfl, fun i lf h => by
          cases i with
          | zero => simp only [List.getElem?_cons_zero, Option.some.injEq] at h; subst h; exact ⟨_, rfl, z, rfl, hz⟩
          | succ i => simp at h⟩
      | struct fs =>
        simp only at h
        cases hs : structLeaves P (leaves P n) 0 fs.toList with
        | none => rw [hs] at h; cases h
        | some l =>
          rw [hs] at h
          simp only at h
          split at h
          · rename_i hc
            rw [beq_iff_eq] at hc
            cases h
            obtain ⟨xs, m, _, _, hl, hxl, hel⟩ := DataW.trod_struct hu hx
            have := fields_ok (m := m) (fun t ls cs x h1 h2 => leaves_ok n t ls m cs x h1 h2) fs.toList 0 ls cs hs (by omega) fun i f hf => by
              have h1 := hel i f (by simpa using hf)
              have hi : i < xs.length := by rw [hxl]; have := (List.getElem?_eq_some_iff.1 hf).1; simpa using this
              exact ⟨xs[i], by rw [h1, List.getElem?_eq_getElem hi]⟩
            simpa using this
          · cases h
      | array m e =>
        simp only at h
        cases hs : leaves P n e with
        | none => rw [hs] at h; cases h
        | some l =>
          rw [hs] at h
          simp only at h
          split at h
          · rename_i hc
            simp only [Bool.and_eq_true, beq_iff_eq] at hc
            cases h
            obtain ⟨xs, m', _, _, hl, hxl, hel⟩ := DataW.trod_array hu hx
            refine rows_ok (r := fun cs => ∃ x, DataW.trod enc P w base spare held m' e cs = some x) (fun cs ⟨x, h⟩ => leaves_ok n e l m' cs x hs h) m cs (by omega) fun i hi => ?_
            have h1 := hel i hi
            rw [hc.1] at h1
            exact ⟨xs[i]'(by omega), by rw [h1, List.getElem?_eq_getElem (by omega)]⟩
          · cases h
      | _ => simp at h
/-- An argument by value. -/
theorem open_leaves {t : TypeId} {v : Value} {d : DataW H} {p : List MemPlace} (n : Nat) {ls : List Leaf} (hl : leaves P n t = some ls) (hag : ∃ cs, v = .agg cs) (h : DataW.Trod enc P w base spare held t v d p) : ∃ cs : List Value, v = .agg cs.toArray ∧ CellsOk ls cs := by
  obtain ⟨cs, rfl⟩ := hag
  obtain ⟨fuel, hf⟩ := h
  exact ⟨cs.toList, by simp, leaves_ok n t ls fuel _ _ hl hf⟩
theorem okWide_agg {r : Reach} {b0 : Nat} {t : TypeId} {v : Value} {d : TypeDesc} (ht : P.underlying t = some d) (hd : (match d with | .struct _ | .array _ _ => true | _ => false) = true) (h : Value.okWide P w r b0 t v) : ∃ cs, v = .agg cs := by
  simp only [Value.okWide, ht] at h
  cases d <;> simp at hd
  · obtain ⟨cs, h1, _⟩ := h; exact ⟨cs, h1⟩
  · obtain ⟨cs, h1, _⟩ := h; exact ⟨cs, h1⟩
end

theorem wf_i64 {z : Int} (h : (Lit.int .i64 z).wf = true) : -9223372036854775808 ≤ z ∧ z ≤ 9223372036854775807 := by
  have := bounds_i64 h
  omega
/-- Cells that are all ints. -/
theorem cells_ints : ∀ (n : Nat) (cs : List Value), CellsOk (List.replicate n (.int .i64)) cs → ∃ zs : List Int, zs.length = n ∧ cs = zs.map (fun z => Value.int .i64 z) ∧ ∀ z ∈ zs, -9223372036854775808 ≤ z ∧ z ≤ 9223372036854775807
  | 0, cs, h => ⟨[], rfl, by have := h.1; simp at this; simpa using this, by simp⟩
  | n + 1, cs, h => by
    obtain ⟨h1, h2⟩ := h
    cases cs with
    | nil => simp at h1
    | cons c cs =>
      obtain ⟨v, e1, z, e2, e3⟩ := h2 0 (.int .i64) (by simp)
      obtain ⟨zs, e4, e5, e6⟩ := cells_ints n cs ⟨by simpa using h1, fun i lf hi => by simpa using h2 (i + 1) lf (by rw [List.replicate_succ, List.getElem?_cons_succ]; exact hi)⟩
      simp only [List.getElem?_cons_zero, Option.some.injEq] at e1
      subst e1
      subst e2
      refine ⟨z :: zs, by simp [e4], by simp [e5], fun y hy => ?_⟩
      rcases List.mem_cons.1 hy with rfl | hy
      · exact wf_i64 e3
      · exact e6 y hy
theorem list3 {l : List Int} (h : l.length = 3) : ∃ a b c, l = [a, b, c] := by
  match l, h with
  | [a, b, c], _ => exact ⟨a, b, c, rfl⟩
theorem list4 {l : List Int} (h : l.length = 4) : ∃ a b c d, l = [a, b, c, d] := by
  match l, h with
  | [a, b, c, d], _ => exact ⟨a, b, c, d, rfl⟩
theorem list5 {l : List Int} (h : l.length = 5) : ∃ a b c d e, l = [a, b, c, d, e] := by
  match l, h with
  | [a, b, c, d, e], _ => exact ⟨a, b, c, d, e, rfl⟩
theorem list8 {l : List Int} (h : l.length = 8) : ∃ a b c d e f g i, l = [a, b, c, d, e, f, g, i] := by
  match l, h with
  | [a, b, c, d, e, f, g, i], _ => exact ⟨a, b, c, d, e, f, g, i, rfl⟩
end Go.Proofs.Ytdglhppcfdpcaaa
namespace Go.Proofs.Ytdglhppcfdpcaaa
open Go Go.ChangeShapes Go.WideShapes Go.RowKit Go.Deep

/-- A slice at A reads as these rows of n cells each. -/
def RdS (n : Nat) (w : World) (A : Option Addr) (rows : List (List Value)) : Prop :=
  ∀ (i : Nat) (r : List Value), rows[i]? = some r → r.length = n ∧ ∃ b o, A = some ⟨b, o, none⟩ ∧ b < w.heap.size ∧ ∀ (j : Nat) (v : Value), r[j]? = some v → w.cell? ⟨b, o + i * n + j, none⟩ = some v
section
variable {n : Nat} {w w' : World} {A : Option Addr} {rows : List (List Value)}
theorem RdS.nil : RdS n w A [] := fun i r h => by simp at h
theorem RdS.below (h : RdS n w A rows) (hb : Below w.heap.size w w') : RdS n w' A rows := fun i r hr => by
  obtain ⟨h1, b, o, hA, hlt, hc⟩ := h i r hr
  exact ⟨h1, b, o, hA, Nat.lt_of_lt_of_le hlt hb.size, fun j v hv => (hb.cell hlt).trans (hc j v hv)⟩
theorem RdS.own {B : Nat} {L : Objs} {W : World} (h : RdS n w A rows) (OW : Own B w L W) (HB : w.heap.size = B) : RdS n W A rows :=
  h.below (HB ▸ OW.below (Nat.le_of_eq HB.symm))
end
section
variable {P : Program} {w : World} {b off : Nat}
theorem run_loadVar_cells (ty : TypeId) (l : List Value) {d : TypeDesc} (hc : ∀ (j : Nat) (v : Value), l[j]? = some v → w.cell? ⟨b, off + j, none⟩ = some v) (hu : P.underlying ty = some d) (hd : (match d with | .struct _ | .array _ _ => true | _ => false) = true)
    (hi : (P.info? ty).map (·.size) = some l.length) : (loadVar ty ⟨b, off, none⟩).run P w = .ok (.agg l.toArray) w := by
  have h1 : (loadCells ⟨b, off, none⟩ l.length).run P w = .ok l.toArray w :=
    run_loadCells_list (P := P) w ⟨b, off, none⟩ l (fun j v hv => by
      have hadd : (⟨b, off, none⟩ : Addr).add j = ⟨b, off + j, none⟩ := by unfold Addr.add; split <;> simp_all
      rw [hadd]
      exact hc j v hv)
  cases hq : P.info? ty with
  | none => simp [hq] at hi
  | some i =>
    have hs : i.size = l.length := by simpa [hq] using hi
    have hagg : (isAgg ty).run P w = .ok true w := by
      unfold isAgg
      rw [Sem.run_bind, run_underlying hu w]
      cases d <;> simp_all
    simp [loadVar, Sem.run_bind, hagg, sizeOf, typeInfo, hq, hs, h1]
/-- The address of an element of a slice. -/
theorem run_idxS {t e : TypeId} {n len cap : Nat} {i : Nat} {k : IntKind} (ht : P.underlying t = some (.slice e)) (hs : (P.info? e).map (·.size) = some n) (hi : i < len) : (Instr.indexAt t (.slice (some ⟨b, off, none⟩) len cap) (.int k (i : Int))).run P w = .ok (.pointer (some ⟨b, off + i * n, none⟩)) w := by
  obtain ⟨f, hf⟩ : ∃ f, P.info? e = some f := by cases h : P.info? e <;> simp_all
  have hz : f.size = n := by simpa [hf] using hs
  have hadd : (⟨b, off, none⟩ : Addr).add (i * n) = ⟨b, off + i * n, none⟩ := by unfold Addr.add; split <;> simp_all
  simp [Instr.indexAt, run_underlying ht, asIntOf, Sem.run_bind, sizeOf, typeInfo, hf, hz, hi, hadd]
theorem run_lenS {t e ty : TypeId} {A : Option Addr} {len cap : Nat} (ht : P.underlying t = some (.slice e)) : (Builtin.len_ #[t] ty #[.slice A len cap]).run P w = .ok (.int .i64 (len : Int)) w := by
  simp [Builtin.len_, run_underlying ht, goInt]
end

section
variable {P : Program} {w : World} {o : Oper} {ρ : Operand → Value}
theorem run_lenO {x : Operand} {t e : TypeId} {A : Option Addr} {n c : Nat} (ho : o.op = .call { callee := .builtin .len, args := #[x], argTypes := #[t] }) (hx : ρ x = .slice A n c) (ht : P.underlying t = some (.slice e)) :
    (execOp ρ o).run P w = .ok (.value (.int .i64 (n : Int))) w := by
  unfold execOp
  simp [ho, resolve, invoke, builtin, hx, run_lenS (P := P) (w := w) ht]
theorem run_loadO {T : TypeId} {x : Operand} (ho : o.op = .load T x) {p : Addr} (hx : ρ x = .pointer (some p)) {v : Value} (hr : (loadVar T p).run P w = .ok v w) : (execOp ρ o).run P w = .ok (.value v) w := by
  unfold execOp
  simp only [ho, hx, Instr.loadAt, Instr.sureAddr, Sem.run_bind, Sem.run_pure, Result.andThen_ok, hr]
end
/-- New blocks of a round are forgotten. -/
theorem Own.pre {B : Nat} {base W : World} {L L' : Objs} (h : Own B base L W) (hB : base.heap.size ≤ B) (n : Nat) (hL : L.take n = L') : Own B base L' W := by
  subst hL
  have hm : ∀ x ∈ L.take n, x ∈ L := fun x hx => List.mem_of_mem_take hx
  refine ⟨fun x hx => h.obj x (hm x hx), h.nd.sublist (List.take_sublist n L), fun x hx => h.lo x (hm x hx), h.os, h.tape, h.output, h.size, fun b hb hn => h.far b hb fun x hx e => ?_⟩
  have := h.lo x hx
  omega

section
variable {H : Type} {enc : TypeId × Value → H} {P : Program} {w : World} {base : Nat} {spare : Nat → Bool} {held : Bool}
/-- A slice of structs of ints and bools, opened. -/
theorem open_rows {t e : TypeId} {A : Option Addr} {len cap : Nat} {d : DataW H} {p : List MemPlace} (n : Nat) {ls : List Leaf} (hl : leaves P n e = some ls) (hn : P.cellsOf e = ls.length) (h0 : 0 < ls.length) (ht : P.underlying t = some (.slice e))
    (h : DataW.Trod enc P w base spare held t (.slice A len cap) d p) : ∃ rows : List (List Value), rows.length = len ∧ (∀ r ∈ rows, CellsOk ls r) ∧ RdS ls.length w A rows ∧ len ≤ cap ∧ cap ≤ maxLen := by
  obtain ⟨fuel, hf⟩ := h
  rcases open_slice ht hf with ⟨hcs, _⟩ | ⟨a, l, c, m, n', D, Pl, hcs, _, hl1, hm, hmm, _, hx⟩
  · simp [Value.cells] at hcs
    obtain ⟨rfl, rfl, rfl⟩ := hcs
    exact ⟨[], rfl, by simp, RdS.nil, Nat.le_refl _, Nat.zero_le _⟩
  · simp [Value.cells] at hcs
    obtain ⟨rfl, rfl, rfl⟩ := hcs
    have hlm : len ≤ m := by rw [hmm]; split <;> omega
    obtain ⟨f, hfx⟩ := choose_lt (α := List Value) (n := len) (p := fun i cs => w.cells? base (a.add (i * P.cellsOf e)) (P.cellsOf e) = some cs ∧ CellsOk ls cs) fun i hi => by
      obtain ⟨cs', h1, h2⟩ := hx i (by omega)
      exact ⟨cs', h1, leaves_ok n e ls n' cs' _ hl h2⟩
    refine ⟨(List.range len).map f, by simp, fun r hr => ?_, fun i r hr => ?_, hl1, hm⟩
    · obtain ⟨i, hi, rfl⟩ := List.mem_map.1 hr
      exact (hfx i (List.mem_range.1 hi)).2
    · have hi : i < len := by have := (List.getElem?_eq_some_iff.1 hr).1; simpa using this
      rw [List.getElem?_map, List.getElem?_range hi] at hr
      simp only [Option.map_some, Option.some.injEq] at hr
      subst hr
      obtain ⟨h1, h2⟩ := hfx i hi
      obtain ⟨_, h3, h4⟩ := World.cells?_some h1
      refine ⟨h2.1, ?_⟩
      obtain ⟨b, o, spot⟩ := a
      have hc0 := h4 0 (by omega)
      have hf0 : (f i)[0]? = some ((f i)[0]'(by omega)) := List.getElem?_eq_getElem (by omega)
      rw [hf0] at hc0
      have hspot : spot = none := by
        obtain ⟨z1, z2⟩ := hfx 0 (by omega)
        have hz0 := (World.cells?_some z1).2.2 0 (by omega)
        have hzl := z2.1
        rw [List.getElem?_eq_getElem (show 0 < (f 0).length by omega)] at hz0
        have := World.cell?_spot hz0
        simpa [Addr.add] using this
      subst hspot
      have hadd : ∀ (x y : Nat), ((⟨b, o, none⟩ : Addr).add x).add y = ⟨b, o + x + y, none⟩ := fun x y => by
        unfold Addr.add
        split <;> split <;> simp_all
      refine ⟨b, o, rfl, ?_, fun j v hv => ?_⟩
      · rcases Nat.lt_or_ge b w.heap.size with hlt | hge
        · exact hlt
        · exfalso
          rw [hadd] at hc0
          simp [World.cell?, Array.getElem?_eq_none hge] at hc0
      · have hj : j < P.cellsOf e := by have := (List.getElem?_eq_some_iff.1 hv).1; omega
        have := h4 j hj
        rw [hadd, hn] at this
        rw [this, hv]
end
end Go.Proofs.Ytdglhppcfdpcaaa
