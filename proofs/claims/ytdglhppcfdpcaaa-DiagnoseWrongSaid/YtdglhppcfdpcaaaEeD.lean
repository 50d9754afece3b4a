/- Several texts in one: Ek El Em. -/
import Derived.Test.YtdglhppcfdpcaaaEj
import Derived.Laws.Append
namespace Go.Proofs.Ytdglhppcfdpcaaa.E
open Go Go.RowKit Go.Shelf
set_option linter.unusedVariables false
set_option linter.unusedSimpArgs false

/-- v is a slice of the elements xs: none, or what a block begins with. -/
def SlE {α : Type} (en : α → List Value) (z : List Value) (T : TypeId) (v : Value) (xs : List α) : Objs → Prop := fun bs =>
  (xs = [] ∧ bs = [] ∧ ∃ a, v = .slice a 0 0) ∨ ∃ g r, v = .slice (some ⟨g, 0, none⟩) xs.length (xs.length + r) ∧ bs = [(g, .cells (rowZ (slF en xs) z r) T (0, 0))]
/-- The place off cells behind a slice's beginning. -/
def ixV (v : Value) (off : Nat) : Value := match v with | .slice (some a) _ _ => .pointer (some (a.add off)) | _ => undef
section
variable {α : Type} {P : Program} {en : α → List Value} {z : List Value} {e T : TypeId} {v : Value} {xs ys : List α} {bs : Objs} {w : World}
theorem SlE.nil (a : Option Addr) : SlE en z T (.slice a 0 0) ([] : List α) [] := .inl ⟨rfl, rfl, a, rfl⟩
theorem SlE.form (h : SlE en z T v xs bs) : ∃ a c, v = .slice a xs.length c := by
  rcases h with ⟨rfl, _, a, rfl⟩ | ⟨g, r, rfl, _⟩
  · exact ⟨a, 0, rfl⟩
  · exact ⟨_, _, rfl⟩
theorem SlE.some (h : SlE en z T v xs bs) {i : Nat} (hi : i < xs.length) : ∃ g r, v = .slice (.some ⟨g, 0, none⟩) xs.length (xs.length + r) ∧ bs = [(g, .cells (rowZ (slF en xs) z r) T (0, 0))] := by
  rcases h with ⟨rfl, _⟩ | h
  · simp at hi
  · exact h
theorem HasC.ent {p : Nat} {x : Ent} {c : Cnc} {w : World} (h : HasC [(p, x)] c w) : x.sat (c p) ∧ Has (c p) w := by
  have := h.has
  exact ⟨h.sat _ (List.mem_singleton.2 rfl), by simpa using this⟩
theorem Has.one {g : Nat} {x : Obj} {w : World} (h : Has [(g, x)] w) : w.heap[g]? = .some x := h.obj (g, x) (List.mem_singleton.2 rfl)

/-! What is read. -/
def slOkB (P : Program) (t : Array TypeId) : Bool := match t.toList with | [T] => (match P.underlying T with | .some (.slice _) => true | _ => false) | _ => false
theorem slOkB_spec {t : Array TypeId} (h : slOkB P t = true) : ∃ T e, t = #[T] ∧ P.underlying T = .some (.slice e) := by
  unfold slOkB at h
  split at h
  · rename_i T ht
    split at h
    · rename_i e h3
      exact ⟨T, e, Array.toList_inj.1 ht, h3⟩
    · cases h
  · cases h
def lenSD (P : Program) (p : Nat) (x : Ent) (v : Value) (o : Oper) (ρ : Operand → Value) (_ : Mem) : MD := match o.op with
  | .call ⟨.builtin .len, _, t⟩ => ⟨[(p, x)], fun _ => [], [sE (fun w => (execOp ρ o).run P w) (fun w => (vS (Builtin.len_ t o.type #[v])).run P w), sB (slOkB P t)]⟩
  | _ => MD.bad
theorem lenS_ok (p : Nat) (x : Ent) (h : ∀ bs, x.sat bs → SlE en z T v xs bs) : MD.ok P (fun _ => .int .i64 (xs.length : Int)) (lenSD P p x v) [] := by
  intro o ρ C he w c hH
  unfold lenSD at he hH ⊢
  split at he
  · rename_i a t hop
    simp only [hop] at hH ⊢
    simp only [List.mem_cons, List.not_mem_nil, or_false, forall_eq_or_imp, forall_eq, sE, sB] at he
    obtain ⟨h0, ht⟩ := he
    obtain ⟨h1, h2⟩ := hH.ent
    obtain ⟨b, k, rfl⟩ := (h _ h1).form
    obtain ⟨T', e', rfl, hT⟩ := slOkB_spec ht
    refine ⟨Env.zero, fun _ => [], w, .inl ((congrFun h0 w).trans (run_vS ?_)), fun x h => by simp at h, by simpa using Step.refl w⟩
    simp [Builtin.len_, run_underlying hT, goInt, Sem.run_bind]
  · exact (sB_false he).elim
def lenS (p : Nat) (x : Ent) (h : ∀ bs, x.sat bs → SlE en z T v xs bs) : MH P (fun _ => .int .i64 (xs.length : Int)) := ⟨[], lenSD P p x v, lenS_ok p x h⟩
/-- The place of an element. -/
def idxSD (P : Program) (p : Nat) (x : Ent) (v : Value) (i s : Nat) (o : Oper) (ρ : Operand → Value) (_ : Mem) : MD := match o.op with
  | .indexAddr T a b => ⟨[(p, x)], fun _ => [], [sE (ρ a) v, sE (ρ b) (.int .i64 (i : Int)), sE (P.underlying T, sizB P (P.elem T)) (.some (.slice (P.elem T)), .some s)]⟩
  | _ => MD.bad
theorem idxS_ok (p : Nat) (x : Ent) (i s : Nat) (h : ∀ bs, x.sat bs → SlE en z T v xs bs) (hi : i < xs.length) : MD.ok P (fun _ => ixV v (i * s)) (idxSD P p x v i s) [] := by
  intro o ρ C he w c hH
  unfold idxSD at he hH ⊢
  split at he
  · rename_i T' a b hop
    simp only [hop] at hH ⊢
    simp only [List.mem_cons, List.not_mem_nil, or_false, forall_eq_or_imp, forall_eq, sE] at he
    obtain ⟨ha, hb, hT⟩ := he
    obtain ⟨h1, h2⟩ := hH.ent
    obtain ⟨g, r, rfl, _⟩ := (h _ h1).some hi
    refine ⟨Env.zero, fun _ => [], w, .inl ?_, fun x h => by simp at h, by simpa using Step.refl w⟩
    unfold execOp
    have hr := idx_sl (P := P) (w := w) (g := g) (off := 0) (n := xs.length) (c := xs.length + r) (k := i) (s := s) hT hi
    simp only [hop, ha, hb, Sem.run_bind, hr, Result.andThen_ok, Sem.run_pure, ixV, add_lit]
  · exact (sB_false he).elim
def idxS (p : Nat) (x : Ent) (i s : Nat) (h : ∀ bs, x.sat bs → SlE en z T v xs bs) (hi : i < xs.length) : MH P (fun _ => ixV v (i * s)) := ⟨[], idxSD P p x v i s, idxS_ok p x i s h hi⟩
/-- A field of an element. -/
def fldSD (P : Program) (p : Nat) (x : Ent) (v : Value) (off d : Nat) (o : Oper) (ρ : Operand → Value) (_ : Mem) : MD := match o.op with
  | .fieldAddr T a f => ⟨[(p, x)], fun _ => [], [sE (ρ a) (ixV v off), sE (fun (q : Nat × Nat × World) => (Instr.fieldAt T (.pointer (.some ⟨q.1, q.2.1, none⟩)) f).run P q.2.2) (fun q => .ok (.pointer (.some ⟨q.1, q.2.1 + d, none⟩)) q.2.2)]⟩
  | _ => MD.bad
/-- A cell of an element. -/
def ldSD (P : Program) (p : Nat) (x : Ent) (v : Value) (off : Nat) (o : Oper) (ρ : Operand → Value) (_ : Mem) : MD := match o.op with
  | .load T a => ⟨[(p, x)], fun _ => [], [sE (ρ a) (ixV v off), sE (fun w => (isAgg T).run P w) (fun w => .ok false w)]⟩
  | _ => MD.bad
theorem ldS_ok (p : Nat) (x : Ent) (i k f : Nat) {d : α} {u : Value} (h : ∀ bs, x.sat bs → SlE en z T v xs bs) (hk : ∀ y, (en y).length = k) (hi : i < xs.length) (hf : f < k) (hu : (en (xs.getD i d))[f]? = .some u) : MD.ok P (fun _ => u) (ldSD P p x v (i * k + f)) [] := by
  intro o ρ C he w c hH
  unfold ldSD at he hH ⊢
  split at he
  · rename_i T' a hop
    simp only [hop] at hH ⊢
    simp only [List.mem_cons, List.not_mem_nil, or_false, forall_eq_or_imp, forall_eq, sE] at he
    obtain ⟨ha, hT⟩ := he
    obtain ⟨h1, h2⟩ := hH.ent
    obtain ⟨g, r, rfl, hb⟩ := (h _ h1).some hi
    rw [hb] at h2
    have hbk : Blk w g T (rowZ (slF en xs) z r) := h2.one
    refine ⟨Env.zero, fun _ => [], w, .inl ?_, fun x h => by simp at h, by simpa using Step.refl w⟩
    unfold execOp
    simp only [ixV, add_lit] at ha
    have hz := zcell (z := z) (r := r) hk hi hf hu
    rw [show 0 + i * k + f = 0 + (i * k + f) by omega] at hz
    simp only [hop, ha, Instr.loadAt, Instr.sureAddr, Sem.run_bind, Sem.run_pure, Result.andThen_ok, run_loadVar_cell (congrFun hT w) ((hbk.cell _).trans hz)]
  · exact (sB_false he).elim
def ldS (p : Nat) (x : Ent) (i k f : Nat) {d : α} {u : Value} (h : ∀ bs, x.sat bs → SlE en z T v xs bs) (hk : ∀ y, (en y).length = k) (hi : i < xs.length) (hf : f < k) (hu : (en (xs.getD i d))[f]? = .some u) : MH P (fun _ => u) := ⟨[], ldSD P p x v (i * k + f), ldS_ok p x i k f h hk hi hf hu⟩
/-- A part of an element. -/
def lsSD (P : Program) (p : Nat) (x : Ent) (v : Value) (off n : Nat) (o : Oper) (ρ : Operand → Value) (_ : Mem) : MD := match o.op with
  | .load T a => ⟨[(p, x)], fun _ => [], [sE (ρ a) (ixV v off), sB (aggB P T), sE ((P.info? T).map (·.size)) (.some n)]⟩
  | _ => MD.bad
theorem lsS_ok (p : Nat) (x : Ent) (i k f : Nat) {d : α} {l : List Value} (h : ∀ bs, x.sat bs → SlE en z T v xs bs) (hk : ∀ y, (en y).length = k) (hi : i < xs.length) (hf : f + l.length ≤ k) (hu : ((en (xs.getD i d)).drop f).take l.length = l) : MD.ok P (fun _ => .agg l.toArray) (lsSD P p x v (i * k + f) l.length) [] := by
  intro o ρ C he w c hH
  unfold lsSD at he hH ⊢
  split at he
  · rename_i T' a hop
    simp only [hop] at hH ⊢
    simp only [List.mem_cons, List.not_mem_nil, or_false, forall_eq_or_imp, forall_eq, sE, sB] at he
    obtain ⟨ha, hg, hs⟩ := he
    obtain ⟨h1, h2⟩ := hH.ent
    obtain ⟨g, r, rfl, hb⟩ := (h _ h1).some hi
    rw [hb] at h2
    refine ⟨Env.zero, fun _ => [], w, .inl ?_, fun x h => by simp at h, by simpa using Step.refl w⟩
    unfold execOp
    simp only [ixV, add_lit] at ha
    have hz := zpart (z := z) (r := r) (d := d) hk hi
    rw [hk] at hz
    have hp : ((rowZ (slF en xs) z r).toList.drop (0 + (i * k + f))).take l.length = l := by
      have h5 : ((rowZ (slF en xs) z r).toList.drop (0 + (i * k + f))).take l.length = ((((rowZ (slF en xs) z r).toList.drop (0 + i * k)).take k).drop f).take l.length := by
        rw [List.drop_take, List.take_take, List.drop_drop, show 0 + i * k + f = 0 + (i * k + f) by omega, Nat.min_eq_left (by omega)]
      rw [h5, hz, hu]
    simp only [hop, ha, Instr.loadAt, Instr.sureAddr, Sem.run_bind, Sem.run_pure, Result.andThen_ok, run_ls h2.one hp hg hs]
  · exact (sB_false he).elim
def lsS (p : Nat) (x : Ent) (i k f : Nat) {d : α} {l : List Value} (h : ∀ bs, x.sat bs → SlE en z T v xs bs) (hk : ∀ y, (en y).length = k) (hi : i < xs.length) (hf : f + l.length ≤ k) (hu : ((en (xs.getD i d)).drop f).take l.length = l) : MH P (fun _ => .agg l.toArray) := ⟨[], lsSD P p x v (i * k + f) l.length, lsS_ok p x i k f h hk hi hf hu⟩
end
end Go.Proofs.Ytdglhppcfdpcaaa.E
namespace Go.Proofs.Ytdglhppcfdpcaaa.E
open Go Go.RowKit Go.Shelf
set_option linter.unusedVariables false
set_option linter.unusedSimpArgs false
section
variable {α : Type} {P : Program} {en : α → List Value} {z : List Value} {e T : TypeId} {v : Value} {xs ys : List α} {bs : Objs} {w : World}

/-- One cell of an element is written. -/
def stSD (P : Program) (p : Nat) (x y : Ent) (v : Value) (off : Nat) (u : Value) (o : Oper) (ρ : Operand → Value) (_ : Mem) : MD := match o.op with
  | .store T a b => ⟨[(p, x)], fun _ => [(p, y)], [sE (ρ a) (ixV v off), sE (ρ b) u, sB u.oneCell', sE ((P.info? T).map (·.size)) (some 1)]⟩
  | _ => MD.bad
theorem stS_ok (p : Nat) (i k f : Nat) {d a : α} {u : Value} (hk : ∀ y, (en y).length = k) (hi : i < xs.length) (hf : f < k) (hu : en a = (en (xs.getD i d)).set f u) : MD.ok P (fun _ => undef) (stSD P p (.p (SlE en z T v xs)) (.p (SlE en z T v (xs.set i a))) v (i * k + f) u) [p] := by
  intro o ρ C he w c hH
  unfold stSD at he hH ⊢
  split at he
  · rename_i T' x y hop
    simp only [hop] at hH ⊢
    simp only [List.mem_cons, List.not_mem_nil, or_false, forall_eq_or_imp, forall_eq, sE, sB] at he
    obtain ⟨ha, hb, h3, h4⟩ := he
    obtain ⟨h1, h2⟩ := hH.ent
    obtain ⟨g, r, rfl, hc⟩ := SlE.some (show SlE en z T v xs (c p) from h1) hi
    rw [hc] at h2
    have hbk := h2.one
    have hs := zset1 (z := z) (r := r) hk hi hf hu
    have hl := zset1_lt (z := z) (r := r) (f := f) (xs := xs) hk hi hf
    rw [show 0 + i * k + f = 0 + (i * k + f) by omega] at hs hl
    simp only [ixV, add_lit] at ha
    have hst := Step.setc (i := 0 + (i * k + f)) u hbk
    rw [hs] at hst
    refine ⟨Env.zero, fun _ => [(g, .cells (rowZ (slF en (xs.set i a)) z r) T (0, 0))], w.setCell ⟨g, 0 + (i * k + f), none⟩ u, .inr ⟨?_, by simp⟩, fun q h => ?_, ?_⟩
    · unfold execOp
      simp only [hop, ha, hb, Instr.storeAt, Instr.sureAddr, Sem.run_bind, Sem.run_pure, Result.andThen_ok, run_store1 hbk hl h3 h4]
    · rw [List.mem_singleton.1 h]
      exact .inr ⟨g, r, by rw [List.length_set], rfl⟩
    · rw [show ([p].flatMap fun p => ids (c p)) = _ by simp only [List.flatMap_cons, List.flatMap_nil, hc, ids]; rfl]
      exact hst
  · exact (sB_false he).elim
def stS (p : Nat) (i k f : Nat) {d a : α} {u : Value} (hk : ∀ y, (en y).length = k) (hi : i < xs.length) (hf : f < k) (hu : en a = (en (xs.getD i d)).set f u) : MH P (fun _ => undef) := ⟨[p], stSD P p (.p (SlE en z T v xs)) (.p (SlE en z T v (xs.set i a))) v (i * k + f) u, stS_ok p i k f hk hi hf hu⟩
/-! Appending. -/
theorem run_vS' {s : Sem Value} {v : Value} {w w' : World} (h : s.run P w = .ok v w') : (vS s).run P w = .ok (.value v) w' := by
  unfold vS
  simp only [Sem.run_bind, h, Result.andThen_ok, Sem.run_pure]
theorem SlE.slice (h : SlE en z T v xs bs) : ∃ a r, v = .slice a xs.length (xs.length + r) := by
  rcases h with ⟨rfl, _, a, rfl⟩ | ⟨g, r, rfl, _⟩
  · exact ⟨a, 0, rfl⟩
  · exact ⟨_, r, rfl⟩
theorem run_app0 {T' TY : TypeId} (hT : SlT P T' e z) (a b : Option Addr) (n r c : Nat) (w : World) : (Builtin.append_ #[T', T'] TY #[.slice a n (n + r), .slice b 0 c]).run P w = .ok (.slice a n (n + r)) w := by
  obtain ⟨ht, ⟨i, zv, hi, hz, hs, hzc, hby⟩, h0⟩ := hT
  cases a <;> cases b <;> simp [Builtin.append_, run_underlying ht, sizeOf, typeInfo, hi, Builtin.lenOf, Builtin.firstCells, loadCells, loadCellsFrom, storeCells]
theorem run_app {T' TY : TypeId} (hT : SlT P T' e z) {b1 : Objs} (hv : SlE en z e v xs b1) (hh : Has b1 w) {A : Addr} {c : Nat} (hlen : ∀ y, (en y).length = z.length) (h1 : ∀ y, ∀ u ∈ en y, u.oneCell' = true)
    (hnews : ∀ j u, (slF en ys)[j]? = some u → w.cell? (A.add j) = some u) (hb : xs.length + ys.length ≤ 1000000) :
    ∃ v' bs' w', (Builtin.append_ #[T', T'] TY #[v, .slice (some A) ys.length c]).run P w = .ok v' w' ∧ SlE en z e v' (xs ++ ys) bs' ∧ Step (ids b1) bs' w w' := by
  by_cases hy : ys = []
  · subst hy
    obtain ⟨a, r, rfl⟩ := hv.slice
    refine ⟨_, b1, w, run_app0 hT a (some A) _ r c w, by rw [List.append_nil]; exact hv, rfl, rfl, rfl, Nat.le_refl _, hh.obj, fun x hx => .inl (List.mem_map_of_mem hx), hh.nd, fun _ _ _ => rfl⟩
  have hpos : 0 < ys.length := List.length_pos_iff.2 hy
  have hT' := hT
  obtain ⟨ht, ⟨i, zv, hi, hz, hs, hzc, hby⟩, h0⟩ := hT
  have hzz : 0 < zv.cells.size := by rw [← Array.length_toList, hzc]; exact h0
  have hm : (slF en ys).length = ys.length * i.size := by rw [hs]; exact slF_lenk hlen rfl
  have hone := slF_one' (e := en) (xs := ys) h1
  have fresh : ∀ (C : Array Value), Step (ids b1) [(w.heap.size, .cells C e (0, 0))] w (w.drew.alloc (.cells C e)) := fun C => by
    have hal := (Below.refl w.heap.size w.drew).alloc (Nat.le_refl _) (.cells C e)
    exact ⟨hal.os, hal.tape, hal.output, hal.size, fun x hx => by obtain rfl := List.mem_singleton.1 hx; exact World.alloc_heap_new w.drew _, fun x hx => by obtain rfl := List.mem_singleton.1 hx; exact .inr (Nat.le_refl _), List.pairwise_singleton _ _, fun b hb _ => hal.block b hb⟩
  have grown : ∀ (g0 : Option Addr) (cap : Nat) (G : Nat), G = grownCap w (xs.length + ys.length) cap e → cap < xs.length + ys.length → (Builtin.append_ #[T', T'] TY #[v, .slice (some A) ys.length c]).run P w = .ok (.slice (some ⟨w.heap.size, 0, none⟩) (xs.length + ys.length) G) (w.drew.alloc (.cells ((slF en xs).toArray ++ (slF en ys).toArray ++ Builtin.zeroCells zv.cells (G - (xs.length + ys.length))) e)) →
      ∃ v' bs' w', (Builtin.append_ #[T', T'] TY #[v, .slice (some A) ys.length c]).run P w = .ok v' w' ∧ SlE en z e v' (xs ++ ys) bs' ∧ Step (ids b1) bs' w w' := by
    intro g0 cap G hG hcap hr
    have hge := grownCap_ge w (xs.length + ys.length) cap e
    rw [← hG] at hge
    have e1 : (slF en xs).toArray ++ (slF en ys).toArray ++ Builtin.zeroCells zv.cells (G - (xs.length + ys.length)) = rowZ (slF en (xs ++ ys)) z (G - (xs.length + ys.length)) := by
      apply Array.toList_inj.1
      unfold rowZ
      simp only [Array.toList_append, zeroCells_flat _ _ hzz, hzc, slF_app]
    rw [e1] at hr
    exact ⟨_, _, _, hr, .inr ⟨w.heap.size, G - (xs.length + ys.length), by rw [List.length_append]; congr 1; omega, rfl⟩, fresh _⟩
  have hbb : (xs.length + ys.length) * i.bytes ≤ 140737488355328 := Nat.le_trans (Nat.mul_le_mul hb hby) (by decide)
  rcases hv with ⟨rfl, rfl, a, rfl⟩ | ⟨g, r, rfl, rfl⟩
  · cases a with
    | none =>
      have h := run_append_nil (P := P) w T' TY e i zv ht hi hz A ys.length c (slF en ys) hm hnews hpos (by simp only [List.length_nil] at hb; omega) (by have := hbb; simp only [List.length_nil, Nat.zero_add] at this; omega)
      refine grown none 0 _ rfl (by simp only [List.length_nil]; omega) ?_
      simp only [List.length_nil, Nat.zero_add, slF, List.flatMap_nil]
      rw [h]
      simp [slF]
    | some a0 =>
      have h := run_append_grow (P := P) w T' TY e i zv ht hi hz a0 0 0 [] (by simp) (fun j u hu => by simp at hu) A ys.length c (slF en ys) hm hnews (by omega) (by simp only [List.length_nil] at hb; omega) (growslice_fits (by omega) (by simpa using hbb))
      refine grown none 0 _ rfl (by simp only [List.length_nil]; omega) ?_
      simp only [List.length_nil, slF, List.flatMap_nil] at h ⊢
      exact h
  · have hg : w.heap[g]? = some (.cells (rowZ (slF en xs) z r) e (0, 0)) := hh.one
    have hn : (slF en xs).length = xs.length * i.size := by rw [hs]; exact slF_lenk hlen rfl
    by_cases hr : ys.length ≤ r
    · have e1 : ((rowZ (slF en xs) z r).toList.take (xs.length * i.size) ++ slF en ys ++ (rowZ (slF en xs) z r).toList.drop (xs.length * i.size + (slF en ys).length)).toArray = rowZ (slF en (xs ++ ys)) z (r - ys.length) := by
        have hrep : (List.replicate r z).flatten = (List.replicate ys.length z).flatten ++ (List.replicate (r - ys.length) z).flatten := by
          rw [← List.flatten_append, List.replicate_append_replicate, show ys.length + (r - ys.length) = r by omega]
        unfold rowZ
        rw [← hn, hrep, slF_app]
        simp only [List.append_assoc]
        congr 1
        rw [List.take_append_of_le_length (Nat.le_refl _), List.take_length]
        congr 2
        rw [hm, hs, ← zeros_flat z ys.length, ← List.length_append, ← List.append_assoc (slF en xs), List.drop_append_of_le_length (Nat.le_refl _), List.drop_length, List.nil_append]
      have hrun := run_append_room (P := P) w T' TY e i ht hi g xs.length (xs.length + r) (rowZ (slF en xs) z r) hg A ys.length c (slF en ys) hm hnews hone (by omega) (by rw [← hn, hm, rowZ_size, hs]; have := Nat.mul_le_mul_right z.length hr; omega)
      rw [e1] at hrun
      exact ⟨_, _, _, hrun, .inr ⟨g, r - ys.length, by rw [List.length_append]; congr 1; omega, rfl⟩, Step.setRow _ hg⟩
    · have hold := row_cells (news := slF en xs) hg (off := 0) (by unfold rowZ; rw [List.drop_zero, List.take_append_of_le_length (Nat.le_refl _), List.take_length])
      have h := run_append_grow (P := P) w T' TY e i zv ht hi hz ⟨g, 0, none⟩ xs.length (xs.length + r) (slF en xs) hn hold A ys.length c (slF en ys) hm hnews (by omega) (by omega) (growslice_fits (by omega) hbb)
      exact grown none (xs.length + r) _ rfl (by omega) h
/-- u is a slice from which ys can be read. -/
def SrE {α : Type} (en : α → List Value) (u : Value) (ys : List α) : Objs → Prop := fun bs =>
  (ys = [] ∧ ∃ a c, u = .slice a 0 c) ∨ ∃ (g off : Nat) (cs : Array Value) (t : TypeId) (fr : Nat × Nat) (c : Nat), u = .slice (some ⟨g, off, none⟩) ys.length c ∧ (g, Obj.cells cs t fr) ∈ bs ∧ (cs.toList.drop off).take (slF en ys).length = slF en ys
theorem SlE.src (h : SlE en z T v xs bs) : SrE en v xs bs := by
  rcases h with ⟨h1, _, a, h2⟩ | ⟨g, r, h1, h2⟩
  · exact .inl ⟨h1, a, 0, h2⟩
  · exact .inr ⟨g, 0, _, T, _, _, h1, by rw [h2]; exact List.mem_singleton.2 rfl, zwhole⟩
/-- A part of a slice. -/
def sbV (v : Value) (l h s : Nat) : Value := match v with | .slice a _ c => sliced a l h c s | _ => undef
theorem SlE.part {k : Nat} (hk : ∀ y, (en y).length = k) (h : SlE en z T v xs bs) {l m : Nat} (hl : l ≤ m) (hm : m ≤ xs.length) : SrE en (sbV v l m k) ((xs.take m).drop l) bs := by
  by_cases e : l = m
  · subst e
    refine .inl ⟨by rw [List.drop_take]; simp, ?_⟩
    obtain ⟨a, r, rfl⟩ := h.slice
    exact ⟨if xs.length + r = l then a else a.map fun x => x.add (l * k), xs.length + r - l, by simp only [sbV, sliced, Nat.sub_self]⟩
  · obtain ⟨g, r, rfl, rfl⟩ := h.some (i := l) (by omega)
    have hlen : ((xs.take m).drop l).length = m - l := by rw [List.length_drop, List.length_take]; omega
    refine .inr ⟨g, l * k, rowZ (slF en xs) z r, T, _, xs.length + r - l, ?_, List.mem_singleton.2 rfl, ?_⟩
    · simp only [sbV, sliced]
      rw [if_neg (by omega), hlen]
      simp only [Option.map_some, add_lit, Nat.zero_add]
    · have h1 : slF en xs = slF en (xs.take l) ++ (slF en ((xs.take m).drop l) ++ slF en (xs.drop m)) := by
        rw [← slF_app, ← slF_app]
        congr 1
        rw [List.drop_take, ← List.append_assoc]
        have h2 : xs.take l ++ (xs.drop l).take (m - l) = xs.take m := by
          rw [← List.take_add]; congr 1; omega
        rw [h2, List.take_append_drop]
      have h3 : (slF en (xs.take l)).length = l * k := by
        rw [slF_lenk hk rfl, List.length_take]; congr 1; omega
      have h4 : (rowZ (slF en xs) z r).toList = slF en xs ++ (List.replicate r z).flatten := by unfold rowZ; rfl
      rw [h4, h1, List.append_assoc, List.drop_left' h3, List.append_assoc, List.take_left' rfl]
def Env.ov (v : Value) : Env := ⟨fun _ => 0, fun _ => 0, fun _ => v⟩
/-- Appending what lies in a block told. -/
theorem appB {T' TY t' : TypeId} {p q g off c m : Nat} {cs2 : Array Value} (hT : SlT P T' e z) (hlen : ∀ y, (en y).length = z.length) (h1 : ∀ y, ∀ u ∈ en y, u.oneCell' = true) (hm : ys.length = m) (hN : (cs2.toList.drop off).take (slF en ys).length = slF en ys) (hb : xs.length + m ≤ 1000000) :
    RunE P (sApp T' TY v (.slice (some ⟨g, off, none⟩) m c)) (fun E => E.val 0) [(p, .p (SlE en z e v xs)), (q, ob g cs2 t')] [p] (fun E => [(p, .p (SlE en z e (E.val 0) (xs ++ ys)))]) := by
  intro w k hH
  subst hm
  have hp : SlE en z e v xs (k p) := hH.sat (p, .p (SlE en z e v xs)) (by simp)
  have hq : k q = [(g, .cells cs2 t' (0, 0))] := hH.sat (q, ob g cs2 t') (by simp)
  have hh := hH.has
  simp only [List.flatMap_cons, List.flatMap_nil, List.append_nil] at hh
  have hg : w.heap[g]? = some (.cells cs2 t' (0, 0)) := hh.obj (g, .cells cs2 t' (0, 0)) (by rw [hq]; simp)
  have hhp : Has (k p) w := ⟨fun x hx => hh.obj x (List.mem_append_left _ hx), (List.pairwise_append.1 hh.nd).1⟩
  obtain ⟨v', bs', w', hr, hs, hst⟩ := run_app (TY := TY) (c := c) hT hp hhp hlen h1 (row_cells hg hN) hb
  exact ⟨Env.ov v', fun _ => bs', w', .inl (run_vS' hr), fun x hx => by rw [List.mem_singleton.1 hx]; exact hs, by simpa using hst⟩
/-- Appending what another slice holds. -/
theorem appS {T' TY : TypeId} {p q : Nat} {x : Ent} {u : Value} (hT : SlT P T' e z) (hlen : ∀ y, (en y).length = z.length) (h1 : ∀ y, ∀ u ∈ en y, u.oneCell' = true) (hx : ∀ bs, x.sat bs → SrE en u ys bs) (hb : xs.length + ys.length ≤ 1000000) :
    RunE P (sApp T' TY v u) (fun E => E.val 0) [(p, .p (SlE en z e v xs)), (q, x)] [p] (fun E => [(p, .p (SlE en z e (E.val 0) (xs ++ ys)))]) := by
  intro w k hH
  have hp : SlE en z e v xs (k p) := hH.sat (p, .p (SlE en z e v xs)) (by simp)
  have hq : SrE en u ys (k q) := hx _ (hH.sat (q, x) (by simp))
  have hh := hH.has
  simp only [List.flatMap_cons, List.flatMap_nil, List.append_nil] at hh
  have hhp : Has (k p) w := ⟨fun x hx => hh.obj x (List.mem_append_left _ hx), (List.pairwise_append.1 hh.nd).1⟩
  have hhq : Has (k q) w := ⟨fun x hx => hh.obj x (List.mem_append_right _ hx), (List.pairwise_append.1 hh.nd).2.1⟩
  rcases hq with ⟨rfl, a, c, rfl⟩ | ⟨g, off, cs, t, fr, c, rfl, hbs, hN⟩
  · obtain ⟨b, r, rfl⟩ := hp.slice
    exact ⟨Env.ov _, fun _ => k p, w, .inl (run_vS' (run_app0 hT b a _ r c w)), fun x hx => by rw [List.mem_singleton.1 hx, List.append_nil]; exact hp, rfl, rfl, rfl, Nat.le_refl _, by simpa using hhp.obj, fun x hx => .inl (by simp only [List.flatMap_cons, List.flatMap_nil, List.append_nil] at hx ⊢; exact List.mem_map_of_mem hx), by simpa using hhp.nd, fun _ _ _ => rfl⟩
  · obtain ⟨v', bs', w', hr, hs, hst⟩ := run_app (TY := TY) (c := c) hT hp hhp hlen h1 (row_cells (hhq.obj _ hbs) hN) hb
    exact ⟨Env.ov v', fun _ => bs', w', .inl (run_vS' hr), fun x hx => by rw [List.mem_singleton.1 hx]; exact hs, by simpa using hst⟩
end
end Go.Proofs.Ytdglhppcfdpcaaa.E
namespace Go.Proofs.Ytdglhppcfdpcaaa.E
open Go Go.RowKit Go.Shelf
set_option linter.unusedVariables false
set_option linter.unusedSimpArgs false

/-- The map's entries are f's: each key once; what has no entry is d. -/
structure MpR {α : Type} (en : α → Value) (d : α) (f : Int → α) (es : List MapEntry) : Prop where
  key : ∀ x ∈ es, ∃ k, x.key = .int .i64 k ∧ x.val = en (f k)
  out : ∀ k, (∀ x ∈ es, x.key ≠ .int .i64 k) → f k = d
  one : es.Pairwise fun x y => x.key ≠ y.key
def upI {α : Type} (f : Int → α) (k : Int) (a : α) (j : Int) : α := if j = k then a else f j
section
variable {α : Type} {P : Program} {en : α → Value} {d : α} {f : Int → α} {w : World}
theorem MpR.nil : MpR en d (fun _ => d) [] := ⟨fun x h => by simp at h, fun _ _ => rfl, List.Pairwise.nil⟩
theorem MpR.set {es : List MapEntry} (h : MpR en d f es) {k : Int} {i : Nat} {y : MapEntry} (hy : es[i]? = some y) (hk : y.key = .int .i64 k) (a : α) : MpR en d (upI f k a) (es.modify i fun e => { e with key := .int .i64 k, val := en a }) := by
  have hlt := (List.getElem?_eq_some_iff.1 hy).1
  have hyi := (List.getElem?_eq_some_iff.1 hy).2
  have hget : ∀ j (hj : j < es.length), (es.modify i fun e => { e with key := .int .i64 k, val := en a })[j]'(by simpa using hj) = if i = j then { es[j] with key := .int .i64 k, val := en a } else es[j] := fun j hj => by
    rw [List.getElem_modify]
  have hkey : ∀ j (hj : j < es.length), ((es.modify i fun e => { e with key := .int .i64 k, val := en a })[j]'(by simpa using hj)).key = es[j].key := fun j hj => by
    rw [hget j hj]
    split
    · rename_i e; subst e; simp only; rw [hyi, hk]
    · rfl
  refine ⟨fun x hx => ?_, fun j hj => ?_, ?_⟩
  · obtain ⟨j, hj, rfl⟩ := List.getElem_of_mem hx
    have hj' : j < es.length := by simpa using hj
    rw [hget j hj']
    split
    · exact ⟨k, rfl, by unfold upI; rw [if_pos rfl]⟩
    · rename_i hne
      obtain ⟨q, h1, h2⟩ := h.key es[j] (List.getElem_mem hj')
      refine ⟨q, h1, ?_⟩
      unfold upI
      rw [if_neg]
      · exact h2
      · rintro rfl
        have hp := List.pairwise_iff_getElem.1 h.one
        rcases Nat.lt_or_gt_of_ne hne with l | l
        · exact hp i j hlt hj' l (by rw [hyi, hk, h1])
        · exact hp j i hj' hlt l (by rw [hyi, hk, h1])
  · unfold upI
    have hne : j ≠ k := by
      rintro rfl
      refine hj _ (List.getElem_mem (show i < _ by simpa using hlt)) ?_
      rw [hkey i hlt, hyi, hk]
    rw [if_neg hne]
    refine h.out j fun x hx => ?_
    obtain ⟨q, hq, rfl⟩ := List.getElem_of_mem hx
    rw [← hkey q hq]
    exact hj _ (List.getElem_mem _)
  · rw [List.pairwise_iff_getElem]
    intro a b ha hb hab
    have ha' : a < es.length := by simpa using ha
    have hb' : b < es.length := by simpa using hb
    rw [hkey a ha', hkey b hb']
    exact (List.pairwise_iff_getElem.1 h.one) a b ha' hb' hab
end
/-! Packs of entries. -/
def PkE (S : Ents → Prop) : Objs → Prop := fun bs => ∃ L cs, S L ∧ SatL L cs ∧ bs = cs.flatten
theorem PkE.of {S : Ents → Prop} {L : Ents} (h : S L) : ∀ ds, SatL L ds → (Ent.p (PkE S)).sat ds.flatten := fun ds hd => ⟨L, ds, h, hd, rfl⟩
theorem satL_cE : ∀ {cs ds : List Objs}, SatL (cs.map .c) ds → ds = cs
  | [], [], _ => rfl
  | c :: cs, d :: ds, h => by rw [show d = c from h.1, satL_cE h.2]
  | [], _ :: _, h => h.elim
  | _ :: _, [], h => h.elim
section
variable {R : List Nat} {base W w : World} {L L' N : Ents}
/-- A pack of entries, opened: its place is left empty, its entries stand behind the others. -/
theorem OwnE.openE (h : OwnE R base L W) (k : Nat) {S : Ents → Prop} (hk : L[k]? = some (.p (PkE S)) := by kernel_rfl) : ∃ L', S L' ∧ OwnE R base (L.set k (.c []) ++ L') W := by
  obtain ⟨bs, ⟨L', cs, h1, h2, rfl⟩, h3⟩ := h.open k hk
  have hlt := (List.getElem?_eq_some_iff.1 hk).1
  have h4 := h3.split k cs (by rw [List.getElem?_set, if_pos rfl, if_pos hlt])
  rw [List.set_set] at h4
  refine ⟨L', h1, ?_⟩
  obtain ⟨ds, hs, hO⟩ := h4.conc
  obtain ⟨d1, d2, rfl, s1, s2⟩ := satL_split hs
  rw [satL_cE s2] at hO
  exact OwnE.ofS (satL_app s1 h2) hO
theorem OwnE.weak (h : OwnE R base L W) {x y : Ent} (k : Nat) (hk : L[k]? = some x) (hxy : ∀ bs, x.sat bs → y.sat bs) : OwnE R base (L.set k y) W := by
  obtain ⟨c, hO⟩ := h
  have hlt := (List.getElem?_eq_some_iff.1 hk).1
  refine ⟨c, ?_⟩
  rw [List.length_set]
  refine ⟨fun p hp z hz => ?_, fun p hp hx => ?_, hO.obj, hO.inn, hO.nd, hO.lo, hO.os, hO.tape, hO.output, hO.size, hO.far⟩
  · rw [List.getElem?_set] at hz
    by_cases e : k = p
    · subst e
      rw [if_pos rfl, if_pos hlt] at hz
      cases hz
      exact hxy _ (hO.sat k hlt x hk)
    · rw [if_neg e] at hz
      exact hO.sat p hp z hz
  · rw [List.getElem?_eq_none_iff, List.length_set] at hx
    omega
/-- A nil slice needs no block. -/
theorem OwnE.nilS {α : Type} (h : OwnE R base L W) (en : α → List Value) (z : List Value) (T : TypeId) : OwnE R base (L ++ [.p (SlE en z T (.slice none 0 0) ([] : List α))]) W := by
  obtain ⟨cs, hs, hO⟩ := h.conc
  refine OwnE.ofS (cs := cs ++ [[]]) (satL_app hs ⟨SlE.nil none, trivial⟩) ?_
  simpa using hO
end
end Go.Proofs.Ytdglhppcfdpcaaa.E
