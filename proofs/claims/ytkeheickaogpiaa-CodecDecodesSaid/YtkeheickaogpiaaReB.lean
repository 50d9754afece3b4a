/- Slices that are made, appended to, copied: what these do to the memory. No program in sight. -/
import Derived.Test.YtkeheickaogpiaaReO
import Derived.Laws.AppendOwn
namespace Go.Proofs.Ytkeheickaogpiaa
open Go Go.RowKit Go.Shelf
/-- A row with room behind it. -/
def rowZ (cs z : List Value) (r : Nat) : Array Value := (cs ++ (List.replicate r z).flatten).toArray
theorem zeros_flat (z : List Value) (r : Nat) : ((List.replicate r z).flatten).length = r * z.length := by
  induction r with
  | zero => simp
  | succ r ih => rw [List.replicate_succ, List.flatten_cons, List.length_append, ih, Nat.succ_mul]; omega
theorem rowZ_size (cs z : List Value) (r : Nat) : (rowZ cs z r).size = cs.length + r * z.length := by unfold rowZ; rw [List.size_toArray, List.length_append, zeros_flat]
theorem zeroCells_flat (z : Array Value) (n : Nat) (hz : 0 < z.size) : (Builtin.zeroCells z n).toList = (List.replicate n z.toList).flatten := by
  have h : ∀ n, ∀ i, i < n * z.size → ((List.replicate n z.toList).flatten)[i]? = z[i % z.size]? := by
    intro n
    induction n with
    | zero => intro i hi; omega
    | succ n ih =>
      intro i hi
      rw [List.replicate_succ, List.flatten_cons]
      by_cases h1 : i < z.size
      · rw [List.getElem?_append_left (by simpa using h1), Nat.mod_eq_of_lt h1, Array.getElem?_toList]
      · rw [List.getElem?_append_right (by simpa using h1), Array.length_toList, ih (i - z.size) (by rw [Nat.succ_mul] at hi; omega)]
        congr 1
        exact (Nat.mod_eq_sub_mod (by omega)).symm
  apply List.ext_getElem?
  intro i
  rcases Nat.lt_or_ge i (n * z.size) with h1 | h1
  · rw [h n i h1]
    have h2 : i % z.size < z.size := Nat.mod_lt _ hz
    unfold Builtin.zeroCells
    simp [h1, h2]
  · rw [List.getElem?_eq_none (by rw [Array.length_toList, size_zeroCells]; exact h1), List.getElem?_eq_none (by rw [zeros_flat]; simpa using h1)]

theorem run_vSw {P : Program} {s : Sem Value} {v : Value} {w w' : World} (h : s.run P w = .ok v w') : (vS s).run P w = .ok (.value v) w' := by
  unfold vS
  simp only [Sem.run_bind, h, Result.andThen_ok, Sem.run_pure]
def sApp (T TY : TypeId) (v u : Value) : Sem Next := vS (Builtin.append_ #[T, T] TY #[v, u])
def sCopy (T U TY : TypeId) (v u : Value) : Sem Next := vS (Builtin.copy_ #[T, U] TY #[v, u])
/-- What an operation does, in the form of a hint. -/
def ActsS (P : Program) (s : Sem Next) (v : Env → Value) (rd : Wr) (O : List Nat) (wt : Env → Wr) : Prop :=
  ∀ w', Has (rd.map (·.2)) w' → ∃ E w'', (s.run P w' = .ok (.value (v E)) w'' ∨ (s.run P w' = .ok .skip w'' ∧ v E = undef)) ∧ Step O ((wt E).map (·.2)) w' w''
theorem row_cells {w : World} {g off : Nat} {t : TypeId} {cs : Array Value} {news : List Value} (hb : w.heap[g]? = some (.cells cs t (0, 0))) (hn : (cs.toList.drop off).take news.length = news) : ∀ j u, news[j]? = some u → w.cell? ((⟨g, off, none⟩ : Addr).add j) = some u := by
  intro j u hu
  have hadd : (⟨g, off, none⟩ : Addr).add j = ⟨g, off + j, none⟩ := by unfold Addr.add; split <;> simp_all
  rw [hadd, cell_of_row w g (off + j) cs t (0, 0) hb]
  have hj : j < news.length := (List.getElem?_eq_some_iff.1 hu).1
  have h2 := congrArg (fun z => z[j]?) hn
  simp only [List.getElem?_take_of_lt hj, List.getElem?_drop] at h2
  rw [← Array.getElem?_toList, h2]
  exact hu
section
variable {P : Program} {T e : TypeId} {i : TypeInfo} {zv : Value}
/-- What a type of slices is, seen at once. -/
structure SlT (P : Program) (T e : TypeId) (z : List Value) : Prop where
  ht : P.underlying T = some (.slice e)
  hi : ∃ i zv, P.info? e = some i ∧ i.zero = some zv ∧ i.size = z.length ∧ zv.cells.toList = z ∧ i.bytes ≤ 1048576
  h0 : 0 < z.length
theorem SlT.mk' {z : List Value} (ht : P.underlying T = some (.slice e)) (hi : (P.info? e).map (fun i => (i.zero.map (fun v => v.cells.toList), i.size, Nat.ble i.bytes 1048576)) = some (some z, z.length, true)) (h0 : Nat.blt 0 z.length = true) : SlT P T e z := by
  refine ⟨ht, ?_, Nat.blt_eq ▸ h0⟩
  cases hq : P.info? e with
  | none => rw [hq] at hi; cases hi
  | some i =>
    rw [hq] at hi
    simp only [Option.map_some, Option.some.injEq, Prod.mk.injEq] at hi
    cases hz : i.zero with
    | none => rw [hz] at hi; simp at hi
    | some zv =>
      rw [hz] at hi
      exact ⟨i, zv, rfl, hz, hi.2.1, by simpa using hi.1, Nat.le_of_ble_eq_true hi.2.2⟩
/-- Appending to a row with room, from a part of another one. -/
theorem acts_app {z cs news : List Value} {g r n m c p q off : Nat} {a : Nat} {t' TY : TypeId} {cs2 : Array Value} (hT : SlT P T e z) (hn : cs.length = n * z.length) (hm : news.length = m * z.length) (hN : (cs2.toList.drop off).take news.length = news) (h1 : ∀ u ∈ news, u.oneCell' = true) (hb : n + m ≤ 1000000) :
    ActsS P (sApp T TY (.slice (some ⟨g, 0, none⟩) n (n + r)) (.slice (some ⟨a, off, none⟩) m c)) (fun E => .slice (some ⟨E.blk 0, 0, none⟩) (n + m) (n + m + E.num 0)) [(p, (g, .cells (rowZ cs z r) e (0, 0))), (q, (a, .cells cs2 t' (0, 0)))] [g] (fun E => [(p, (E.blk 0, .cells (rowZ (cs ++ news) z (E.num 0)) e (0, 0)))]) := by
  intro w H
  obtain ⟨ht, ⟨i, zv, hi, hz, hs, hzc, hby⟩, h0⟩ := hT
  have hg : w.heap[g]? = some (.cells (rowZ cs z r) e (0, 0)) := H.obj (g, _) (by simp)
  have ha : w.heap[a]? = some (.cells cs2 t' (0, 0)) := H.obj (a, _) (by simp)
  have hnews := row_cells ha hN
  by_cases hr : m ≤ r
  · have e1 : ((rowZ cs z r).toList.take (n * i.size) ++ news ++ (rowZ cs z r).toList.drop (n * i.size + news.length)).toArray = rowZ (cs ++ news) z (r - m) := by
      have hrep : (List.replicate r z).flatten = (List.replicate m z).flatten ++ (List.replicate (r - m) z).flatten := by
        rw [← List.flatten_append, List.replicate_append_replicate, show m + (r - m) = r by omega]
      unfold rowZ
      rw [hs, ← hn, hrep]
      simp only [List.append_assoc]
      congr 1
      rw [List.take_append_of_le_length (Nat.le_refl _), List.take_length]
      congr 2
      rw [hm, ← zeros_flat z m, ← List.length_append, ← List.append_assoc cs, List.drop_append_of_le_length (Nat.le_refl _), List.drop_length, List.nil_append]
    have hrun := run_append_room (P := P) w T TY e i ht hi g n (n + r) (rowZ cs z r) hg ⟨a, off, none⟩ m c news (by rw [hs]; exact hm) hnews h1 (by omega) (by rw [hs, ← hn, hm, rowZ_size]; have := Nat.mul_le_mul_right z.length hr; omega)
    rw [e1] at hrun
    exact ⟨⟨fun _ => g, fun _ => [], fun _ => r - m⟩, _, .inl (run_vSw (by rw [hrun]; simp only; rw [show n + m + (r - m) = n + r by omega])), Step.setRow _ hg⟩
  · have hge := grownCap_ge w (n + m) (n + r) e
    obtain ⟨G, hG⟩ : ∃ G, grownCap w (n + m) (n + r) e = G := ⟨_, rfl⟩
    rw [hG] at hge
    have hbb : (n + m) * i.bytes ≤ 140737488355328 := Nat.le_trans (Nat.mul_le_mul hb hby) (by decide)
    have hold := row_cells (news := cs) hg (off := 0) (by unfold rowZ; rw [List.drop_zero, List.take_append_of_le_length (Nat.le_refl _), List.take_length])
    have h := run_append_grow (P := P) w T TY e i zv ht hi hz ⟨g, 0, none⟩ n (n + r) cs (by rw [hs]; exact hn) hold ⟨a, off, none⟩ m c news (by rw [hs]; exact hm) hnews (by omega) (by omega) (growslice_fits (by omega) hbb)
    rw [hG] at h
    have e1 : cs.toArray ++ news.toArray ++ Builtin.zeroCells zv.cells (G - (n + m)) = rowZ (cs ++ news) z (G - (n + m)) := by
      have hzz : 0 < zv.cells.size := by rw [← Array.length_toList, hzc]; exact h0
      apply Array.toList_inj.1
      unfold rowZ
      simp only [Array.toList_append, zeroCells_flat _ _ hzz, hzc]
    rw [e1] at h
    have hal := (Below.refl w.heap.size w.drew).alloc (Nat.le_refl _) (.cells (rowZ (cs ++ news) z (G - (n + m))) e)
    exact ⟨⟨fun _ => w.heap.size, fun _ => [], fun _ => G - (n + m)⟩, _, .inl (run_vSw (by rw [h]; simp only; rw [show n + m + (G - (n + m)) = G by omega])),
      hal.os, hal.tape, hal.output, hal.size, fun x hx => by obtain rfl := List.mem_singleton.1 hx; exact World.alloc_heap_new w.drew _, fun x hx => by obtain rfl := List.mem_singleton.1 hx; exact .inr (Nat.le_refl _), List.pairwise_singleton _ _, fun b hb _ => hal.block b hb⟩
/-- Appending to none. -/
theorem acts_app0 {z news : List Value} {m c p q off : Nat} {a : Nat} {t' TY : TypeId} {cs2 : Array Value} (hT : SlT P T e z) (hm : news.length = m * z.length) (hN : (cs2.toList.drop off).take news.length = news) (h0m : 0 < m) (hb : m ≤ 1000000) :
    ActsS P (sApp T TY (.slice none 0 0) (.slice (some ⟨a, off, none⟩) m c)) (fun E => .slice (some ⟨E.blk 0, 0, none⟩) m (m + E.num 0)) [(q, (a, .cells cs2 t' (0, 0)))] [] (fun E => [(p, (E.blk 0, .cells (rowZ news z (E.num 0)) e (0, 0)))]) := by
  intro w H
  obtain ⟨ht, ⟨i, zv, hi, hz, hs, hzc, hby⟩, h0⟩ := hT
  have ha : w.heap[a]? = some (.cells cs2 t' (0, 0)) := H.obj (a, _) (by simp)
  have hnews := row_cells ha hN
  have hge := grownCap_ge w m 0 e
  obtain ⟨G, hG⟩ : ∃ G, grownCap w m 0 e = G := ⟨_, rfl⟩
  rw [hG] at hge
  have hbb : m * i.bytes ≤ 281474976710656 := Nat.le_trans (Nat.mul_le_mul hb hby) (by decide)
  have h := run_append_nil (P := P) w T TY e i zv ht hi hz ⟨a, off, none⟩ m c news (by rw [hs]; exact hm) hnews h0m (by omega) hbb
  rw [hG] at h
  have e1 : news.toArray ++ Builtin.zeroCells zv.cells (G - m) = rowZ news z (G - m) := by
    have hzz : 0 < zv.cells.size := by rw [← Array.length_toList, hzc]; exact h0
    apply Array.toList_inj.1
    unfold rowZ
    simp only [Array.toList_append, zeroCells_flat _ _ hzz, hzc]
  rw [e1] at h
  have hal := (Below.refl w.heap.size w.drew).alloc (Nat.le_refl _) (.cells (rowZ news z (G - m)) e)
  exact ⟨⟨fun _ => w.heap.size, fun _ => [], fun _ => G - m⟩, _, .inl (run_vSw (by rw [h]; simp only; rw [show m + (G - m) = G by omega])),
    hal.os, hal.tape, hal.output, hal.size, fun x hx => by obtain rfl := List.mem_singleton.1 hx; exact World.alloc_heap_new w.drew _, fun x hx => by obtain rfl := List.mem_singleton.1 hx; exact .inr (Nat.le_refl _), List.pairwise_singleton _ _, fun b hb _ => hal.block b hb⟩
/-- A new object. -/
theorem acts_new {s : Sem Value} {v : Nat → Value} {o : Obj} {p : Nat} (h : ∀ w, s.run P w = .ok (v w.heap.size) (w.alloc o)) : ActsS P (vS s) (fun E => v (E.blk 0)) [] [] (fun E => [(p, (E.blk 0, o))]) :=
  fun w _ => ⟨⟨fun _ => w.heap.size, fun _ => [], fun _ => 0⟩, _, .inl (run_vSw (h w)), Step.alloc w o⟩
/-- Copying a part of one row into another one. -/
theorem acts_copy {U TY t t' : TypeId} {z news : List Value} {g off dl dc a so sl sc n p q : Nat} {cs cs' cs2 : Array Value} (hT : SlT P T e z) (hn : min sl dl = n) (hm : news.length = n * z.length) (hN : (cs2.toList.drop so).take news.length = news) (h1 : ∀ u ∈ news, u.oneCell' = true) (hf : off + news.length ≤ cs.size)
    (hc : cs.toList.take off ++ news ++ cs.toList.drop (off + news.length) = cs'.toList) :
    ActsS P (sCopy T U TY (.slice (some ⟨g, off, none⟩) dl dc) (.slice (some ⟨a, so, none⟩) sl sc)) (fun _ => .int .i64 (n : Int)) [(p, (g, .cells cs t (0, 0))), (q, (a, .cells cs2 t' (0, 0)))] [g] (fun _ => [(p, (g, .cells cs' t (0, 0)))]) := by
  intro w H
  obtain ⟨ht, ⟨i, zv, hi, hz, hs, hzc, hby⟩, h0⟩ := hT
  have hg : w.heap[g]? = some (.cells cs t (0, 0)) := H.obj (g, _) (by simp)
  have ha : w.heap[a]? = some (.cells cs2 t' (0, 0)) := H.obj (a, _) (by simp)
  have hnews := row_cells ha hN
  have hff := run_firstCells_some (P := P) w i.size n ⟨a, so, none⟩ sl sc news (by rw [hs]; exact hm) hnews
  have hst := run_storeCells_at P g off t news 0 cs w hg (by simpa using hf) h1
  simp only [Nat.add_zero] at hst
  have e1 : (cs.toList.take off ++ news ++ cs.toList.drop (off + news.length)).toArray = cs' := by rw [hc]
  rw [e1] at hst
  refine ⟨Env.zero, w.setRow g cs', .inl (run_vSw ?_), Step.setRow cs' hg⟩
  have hmin : Nat.min sl dl = n := hn
  simp [Builtin.copy_, run_underlying ht, sizeOf, typeInfo, hi, Builtin.lenOf, hmin, hff, hst, goInt]
end
end Go.Proofs.Ytkeheickaogpiaa
