/- Slices of elements: reading, writing, appending; conversions: for walks by evaluation. No program in sight. -/
import Derived.Test.YtkeheickaogpiaaRx
import Derived.IntWalk
namespace Go.Proofs.Ytkeheickaogpiaa
open Go Go.RowKit Go.Shelf
set_option linter.unusedSimpArgs false

/-- The cells of a slice's elements. -/
def slF {α : Type} (e : α → List Value) (xs : List α) : List Value := xs.flatMap e
section
variable {α : Type} {e : α → List Value} {d : α} {xs ys : List α} {k n i r : Nat} {z : List Value}
theorem slF_app : slF e (xs ++ ys) = slF e xs ++ slF e ys := List.flatMap_append
theorem slF_lenk (h : ∀ x, (e x).length = k) (hn : xs.length = n) : (slF e xs).length = n * k := by
  subst hn
  unfold slF
  induction xs with
  | nil => simp
  | cons x xs ih => rw [List.flatMap_cons, List.length_append, h, ih, List.length_cons, Nat.succ_mul, Nat.add_comm]
theorem slF_one {g : α → Value} (hg : ∀ x, (g x).oneCell' = true) (xs : List α) : ∀ u ∈ slF (fun x => [g x]) xs, u.oneCell' = true := by
  intro u hu
  unfold slF at hu
  obtain ⟨x, _, hx⟩ := List.mem_flatMap.1 hu
  obtain rfl := List.mem_singleton.1 hx
  exact hg x
theorem rowF_flat {f : Nat → List Value} : ∀ n i, rowF f i n = (List.range' i n).flatMap f
  | 0, _ => rfl
  | n + 1, i => by rw [rowF, rowF_flat n, List.range'_succ, List.flatMap_cons]
theorem range_getD : ∀ (xs : List α), (List.range' 0 xs.length).map (fun i => xs.getD i d) = xs := by
  intro xs
  apply List.ext_getElem?
  intro i
  rw [List.getElem?_map]
  rcases Nat.lt_or_ge i xs.length with hi | hi
  · rw [List.getElem?_range' hi, Option.map_some, List.getD_eq_getElem?_getD, Nat.zero_add, Nat.one_mul, List.getElem?_eq_getElem hi]
    rfl
  · rw [List.getElem?_eq_none (by rw [List.length_range']; exact hi), List.getElem?_eq_none hi]
    rfl
theorem rowL_sl (h : xs.length = n) : rowL e d n xs = slF e xs := by
  subst h
  unfold rowL slF
  rw [rowF_flat]
  conv => rhs; rw [← range_getD (d := d) xs]
  rw [List.flatMap_map]
theorem rL_whole (h : xs.length = n) : (((rowL e d n xs).toArray).toList.drop 0).take (slF e xs).length = slF e xs := by
  rw [List.drop_zero, rowL_sl h, List.take_length]
theorem rL_lt {j : Nat} (h : j < n) (h1 : ∀ x, (e x).length = 1 := by intro _; rfl) : j < ((rowL e d n xs).toArray).size := by
  rw [List.size_toArray, rowL_len h1, Nat.mul_one]
  exact h
theorem zwhole : ((rowZ (slF e xs) z r).toList.drop 0).take (slF e xs).length = slF e xs := rowZ_part
theorem sl_part (h : ∀ x, (e x).length = k) (hi : i < xs.length) : ((slF e xs).drop (i * k)).take k = e (xs.getD i d) := by
  rw [← rowL_sl (d := d) rfl]
  exact rowL_part h hi
theorem zpart (h : ∀ x, (e x).length = k) (hi : i < xs.length) : ((rowZ (slF e xs) z r).toList.drop (0 + i * k)).take (e (xs.getD i d)).length = e (xs.getD i d) := by
  have hl := slF_lenk h (xs := xs) rfl
  have h1 : (i + 1) * k ≤ xs.length * k := Nat.mul_le_mul_right _ hi
  rw [Nat.succ_mul] at h1
  rw [Nat.zero_add, h]
  unfold rowZ
  simp only
  rw [List.drop_append_of_le_length (by omega), List.take_append_of_le_length (by rw [List.length_drop]; omega)]
  exact sl_part h hi
theorem zcell {f : Nat} {v : Value} (h : ∀ x, (e x).length = k) (hi : i < xs.length) (hf : f < k) (hv : (e (xs.getD i d))[f]? = some v) : (rowZ (slF e xs) z r)[0 + i * k + f]? = some v := by
  have hp := zpart (z := z) (r := r) (d := d) h hi
  have h2 := congrArg (fun l => l[f]?) hp
  simp only [h, List.getElem?_take_of_lt hf, List.getElem?_drop] at h2
  rw [← Array.getElem?_toList, h2]
  exact hv
end
section
variable {P : Program} {T e : TypeId}
theorem acts_appF {α : Type} {en : α → List Value} {xs ys : List α} {z : List Value} {g r n m c p q off : Nat} {a : Nat} {t' TY : TypeId} {cs2 : Array Value} (hT : SlT P T e z) (hn : (slF en xs).length = n * z.length) (hm : (slF en ys).length = m * z.length) (hN : (cs2.toList.drop off).take (slF en ys).length = slF en ys) (h1 : ∀ u ∈ slF en ys, u.oneCell' = true) (hb : n + m ≤ 1000000) :
    ActsS P (sApp T TY (.slice (some ⟨g, 0, none⟩) n (n + r)) (.slice (some ⟨a, off, none⟩) m c)) (fun E => .slice (some ⟨E.blk 0, 0, none⟩) (n + m) (n + m + E.num 0)) [(p, (g, .cells (rowZ (slF en xs) z r) e (0, 0))), (q, (a, .cells cs2 t' (0, 0)))] [g] (fun E => [(p, (E.blk 0, .cells (rowZ (slF en (xs ++ ys)) z (E.num 0)) e (0, 0)))]) := by
  have h := acts_app (p := p) (q := q) (c := c) (TY := TY) (g := g) (r := r) (a := a) (t' := t') (cs2 := cs2) (off := off) hT hn hm hN h1 hb
  simp only [← slF_app] at h
  exact h
theorem acts_lds {g off p : Nat} {cs : Array Value} {t : TypeId} {l : List Value} (hag : aggB P T = true) (hs : (P.info? T).map (·.size) = some l.length) (h : (cs.toList.drop off).take l.length = l) :
    ActsS P (vS (Instr.loadAt T (.pointer (some ⟨g, off, none⟩)))) (fun _ => .agg l.toArray) [(p, (g, .cells cs t (0, 0)))] [] (fun _ => []) := by
  intro w H
  have hg : w.heap[g]? = some (.cells cs t (0, 0)) := H.obj (g, _) (by simp)
  refine ⟨Env.zero, w, .inl (run_vSw ?_), Step.refl w⟩
  simp only [Instr.loadAt, Instr.sureAddr, Sem.run_bind, Sem.run_pure, Result.andThen_ok, run_ls hg h hag hs]
theorem acts_sts {g off p : Nat} {cs cs' : Array Value} {t : TypeId} {l : List Value} (hs : (P.info? T).map (·.size) = some l.length) (h : cs.toList.take off ++ l ++ cs.toList.drop (off + l.length) = cs'.toList) (hb : off + l.length ≤ cs.size) (h1 : ∀ u ∈ l, u.oneCell' = true) :
    ActsS P (do Instr.storeAt T (.pointer (some ⟨g, off, none⟩)) (.agg l.toArray); pure .skip) (fun _ => undef) [(p, (g, .cells cs t (0, 0)))] [g] (fun _ => [(p, (g, .cells cs' t (0, 0)))]) := by
  intro w H
  have hg : w.heap[g]? = some (.cells cs t (0, 0)) := H.obj (g, _) (by simp)
  have hr0 := run_storeCells_at P g off t l 0 cs w hg hb h1
  have e1 : (cs.toList.take off ++ l ++ cs.toList.drop (off + l.length)).toArray = cs' := by rw [h]
  simp only [Nat.add_zero] at hr0
  rw [e1] at hr0
  have hr : (storeVar T ⟨g, off, none⟩ (.agg l.toArray)).run P w = .ok () (w.setRow g cs') := by
    cases hq : P.info? T with
    | none => simp [hq] at hs
    | some inf =>
      have hs2 : inf.size = l.length := by simpa [hq] using hs
      unfold storeVar
      simp only [sizeOf, typeInfo, Value.cells, Sem.run_bind]
      simp [hq, hs2, hr0]
  refine ⟨Env.zero, _, .inr ⟨?_, rfl⟩, Step.setRow cs' hg⟩
  simp only [Instr.storeAt, Instr.sureAddr, Sem.run_bind, Sem.run_pure, Result.andThen_ok, hr]
end
theorem slT_B : SlT Try.prog 56 5 [.int .u8 0] := SlT.mk' (by kernel_rfl) (by kernel_rfl) rfl
theorem slT_I : SlT Try.prog 70 3 [.int .i64 0] := SlT.mk' (by kernel_rfl) (by kernel_rfl) rfl
end Go.Proofs.Ytkeheickaogpiaa
