/- Slices that are only read: their first part. No program in sight. -/
import Derived.Test.YtdglhppcfdpcaaaGoX
import Derived.Test.YtdglhppcfdpcaaaEeE
set_option linter.unusedVariables false
namespace Go.Proofs.Ytdglhppcfdpcaaa.E
open Go Go.RowKit Go.Shelf

section
variable {α : Type} {P : Program} {en : α → List Value} {z : List Value} {T : TypeId} {v : Value} {xs : List α} {bs : Objs}
theorem SqE.take {k : Nat} (hk : ∀ y, (en y).length = k) (h : SqE en v xs bs) {m : Nat} (hm : m ≤ xs.length) : SqE en (sbV v 0 m k) (xs.take m) bs := by
  obtain ⟨h1, a, r, rfl⟩ := h
  have hlen : (xs.take m).length = m := by rw [List.length_take]; omega
  have hv : ∃ a', sbV (.slice a xs.length (xs.length + r)) 0 m k = .slice a' m (xs.length + r) ∧ (∀ g off, a = some ⟨g, off, none⟩ → a' = some ⟨g, off, none⟩) := by
    simp only [sbV, sliced, Nat.sub_zero, Nat.zero_mul]
    refine ⟨_, rfl, fun g off he => ?_⟩
    subst he
    split
    · rfl
    · simp only [Option.map_some]
      unfold Addr.add
      split <;> simp_all
  obtain ⟨a', e1, e2⟩ := hv
  rw [e1]
  refine ⟨?_, a', xs.length - m + r, by rw [hlen]; congr 1; omega⟩
  by_cases e : m = 0
  · subst e
    exact .inl ⟨List.take_zero, _, _, rfl⟩
  · obtain ⟨g, off, cs, t, fr, c, h2, h3, h4⟩ := h1.some (i := 0) (by omega)
    injection h2 with g1 g2 g3
    refine .inr ⟨g, off, cs, t, fr, _, by rw [e2 _ _ g1, hlen], h3, ?_⟩
    have h5 : slF en xs = slF en (xs.take m) ++ slF en (xs.drop m) := by rw [← slF_app, List.take_append_drop]
    have h7 := congrArg (fun y => y.take (slF en (xs.take m)).length) h4
    rw [List.take_take, h5, List.length_append, Nat.min_eq_left (Nat.le_add_right _ _), List.take_left] at h7
    exact h7
def slHD (P : Program) (p : Nat) (x : Ent) (v : Value) (m s : Nat) (o : Oper) (ρ : Operand → Value) (_ : Mem) : MD := match o.op with
  | .slice T a none (some b) none => ⟨[(p, x)], fun _ => [], [sE (ρ a) v, sE (ρ b) (.int .i64 (m : Int)), sE (P.underlying T, sizB P (P.elem T)) (some (.slice (P.elem T)), some s)]⟩
  | _ => MD.bad
/-- u[:m]. -/
theorem slH_ok (p : Nat) (x : Ent) (m s : Nat) (h : ∀ bs, x.sat bs → SqE en v xs bs) (hm : m ≤ xs.length) : MD.ok P (fun _ => sbV v 0 m s) (slHD P p x v m s) [] := by
  intro o ρ C he w c hH
  unfold slHD at he hH ⊢
  split at he
  · rename_i T' a b hop
    simp only [hop] at hH ⊢
    simp only [List.mem_cons, List.not_mem_nil, or_false, forall_eq_or_imp, forall_eq, sE] at he
    obtain ⟨ha, hb, hT⟩ := he
    obtain ⟨h1, h2⟩ := hH.ent
    obtain ⟨a0, r, rfl⟩ := (h _ h1).2
    have hu : P.underlying T' = some (.slice (P.elem T')) := congrArg (·.1) hT
    have hr : (Instr.sliceAt T' (.slice a0 xs.length (xs.length + r)) none (some (.int .i64 (m : Int))) none).run P w = .ok (sliced a0 0 m (xs.length + r) s) w := by
      rw [run_sliceAt_slice (h := hu), run_slice_h (ht := hu) (kh := .i64) (h := (m : Int)) (h0 := by omega) (h2 := by omega), run_sizeOf (congrArg (·.2) hT)]
      simp only [Result.andThen_ok, Int.toNat_natCast]
    refine ⟨Env.zero, fun _ => [], w, .inl ?_, fun x h => by simp at h, by simpa using Step.refl w⟩
    unfold execOp
    simp only [hop, ha, Option.map_some, Option.map_none, hb, Sem.run_bind, hr, Result.andThen_ok, Sem.run_pure, sbV]
  · exact (sB_false he).elim
def slH (p : Nat) (x : Ent) (m s : Nat) (h : ∀ bs, x.sat bs → SqE en v xs bs) (hm : m ≤ xs.length) : MH P (fun _ => sbV v 0 m s) := ⟨[], slHD P p x v m s, slH_ok p x m s h hm⟩
end
/-! A new slice of zeros. -/
theorem flat_get {z : List Value} : ∀ {n i : Nat}, i < n * z.length → ((List.replicate n z).flatten)[i]? = z[i % z.length]?
  | 0, i, h => by omega
  | n + 1, i, h => by
    rw [List.replicate_succ, List.flatten_cons]
    rcases Nat.lt_or_ge i z.length with hi | hi
    · rw [List.getElem?_append_left hi, Nat.mod_eq_of_lt hi]
    · rw [List.getElem?_append_right hi, flat_get (n := n) (by rw [Nat.succ_mul] at h; omega), Nat.mod_eq_sub_mod hi]
theorem made_flat {z : List Value} (n : Nat) : madeCells z.toArray (n * z.length) = ((List.replicate n z).flatten).toArray := by
  apply Array.ext'
  apply List.ext_getElem?
  intro i
  rw [Array.getElem?_toList]
  unfold madeCells
  rw [Array.getElem?_map]
  rcases Nat.lt_or_ge i (n * z.length) with hi | hi
  · rw [Array.getElem?_range, if_pos hi, flat_get hi, Option.map_some]
    have hz : 0 < z.length := Nat.pos_of_ne_zero fun e => by rw [e, Nat.mul_zero] at hi; omega
    have h1 : i % z.length < z.length := Nat.mod_lt _ hz
    rw [List.getElem?_eq_getElem h1]
    simp [h1]
  · rw [Array.getElem?_range, if_neg (by omega), List.getElem?_eq_none (by simp; exact hi)]
    rfl
section
variable {α : Type} {P : Program}
def mkD (P : Program) (en : α → List Value) (z : List Value) (te : TypeId) (d : α) (T : TypeId) (p n : Nat) (o : Oper) (ρ : Operand → Value) (_ : Mem) : MD :=
  ⟨[], fun E => [(p, .p (SlE en z te (.slice (some ⟨E.blk 0, 0, none⟩) n n) (List.replicate n d)))], [sE (fun w => (execOp ρ o).run P w) (fun w => (vS (Instr.makeSlice T (.int .i64 (n : Int)) (.int .i64 (n : Int)))).run P w)]⟩
theorem mk_ok (K : Kd P α) (p n : Nat) (hd : K.en K.d = K.z) (hn : n ≤ 1000000) : MD.ok P (fun E => .slice (some ⟨E.blk 0, 0, none⟩) n n) (mkD P K.en K.z K.T K.d K.TS p n) [] := by
  intro o ρ C he w c hH
  simp only [mkD, List.mem_singleton, forall_eq, sE] at he hH ⊢
  obtain ⟨ht, ⟨i, zv, hi, hz, hs, hzc, hby⟩, h0⟩ := K.hT
  have hr := run_make (P := P) K.TS K.T i zv ht hi hz .i64 .i64 (n : Int) (n : Int) (by omega) (Int.le_refl _) (by have := Nat.mul_le_mul hby hn; omega) (by omega) (w := w)
  rw [Int.toNat_natCast, hs, show zv.cells = K.z.toArray by rw [← hzc], made_flat] at hr
  have he := congrFun he w
  have hf : slF K.en (List.replicate n K.d) = (List.replicate n K.z).flatten := by unfold slF; rw [List.flatMap_replicate, hd]
  refine ⟨Env.of w.heap.size, fun _ => [(w.heap.size, .cells ((List.replicate n K.z).flatten).toArray K.T (0, 0))], _, .inl (he.trans (run_vS hr)), ?_, by simpa using Step.alloc w (.cells ((List.replicate n K.z).flatten).toArray K.T (0, 0))⟩
  refine .inr ⟨w.heap.size, 0, by rw [List.length_replicate]; rfl, ?_⟩
  rw [hf]
  unfold rowZ
  rw [List.replicate_zero, List.flatten_nil, List.append_nil]
def mkS (K : Kd P α) (p n : Nat) (hn : n ≤ 1000000 := by omega) (hd : K.en K.d = K.z := by rfl) : Pre P := .m ⟨[], mkD P K.en K.z K.T K.d K.TS p n, mk_ok K p n hd hn⟩
end
/-! A slice, boxed. -/
theorem SlE.cells {α : Type} {en : α → List Value} {z : List Value} {T : TypeId} {v : Value} {xs : List α} {bs : Objs} (h : SlE en z T v xs bs) : v.cells = #[v] := by
  obtain ⟨a, c, rfl⟩ := h.form; rfl
theorem SqE.cells {α : Type} {en : α → List Value} {v : Value} {xs : List α} {bs : Objs} (h : SqE en v xs bs) : v.cells = #[v] := by
  obtain ⟨a, r, rfl⟩ := h.2; rfl
def bxVD (P : Program) (p q : Nat) (x : Ent) (v : Value) (o : Oper) (ρ : Operand → Value) (_ : Mem) : MD := match o.op with
  | .box T a => ⟨[(q, x)], fun E => [(p, ob (E.blk 0) #[v] T)], [sE (ρ a) v]⟩
  | _ => MD.bad
theorem bxV_ok {P : Program} (p q : Nat) (x : Ent) (v : Value) (hv : ∀ bs, x.sat bs → v.cells = #[v]) : MD.ok P (fun E => .pointer (some ⟨E.blk 0, 0, none⟩)) (bxVD P p q x v) [] := by
  intro o ρ C he w c hH
  unfold bxVD at he hH ⊢
  split at he
  · rename_i T a hop
    simp only [hop] at hH ⊢
    simp only [List.mem_cons, List.not_mem_nil, or_false, forall_eq, sE] at he
    have h2 : x.sat (c q) := hH.sat (q, x) (by simp)
    have h3 := hv _ h2
    refine ⟨Env.of w.heap.size, fun _ => [(w.heap.size, .cells #[v] T (0, 0))], _, .inl ?_, fun y h => ?_, by simpa using Step.alloc w (.cells #[v] T)⟩
    · unfold execOp
      simp only [hop, he, Sem.run_bind, show (Instr.box T v).run P w = .ok (.pointer (some ⟨w.heap.size, 0, none⟩)) (w.alloc (.cells v.cells T)) from rfl, h3, Result.andThen_ok, Sem.run_pure]
      rfl
    · rw [List.mem_singleton.1 h]
      rfl
  · exact (sB_false he).elim
def bxV {P : Program} (p q : Nat) (x : Ent) (v : Value) (hv : ∀ bs, x.sat bs → v.cells = #[v]) : Pre P := .m ⟨[], bxVD P p q x v, bxV_ok p q x v hv⟩
/-! A literal slice, as a slice. -/
def bsSD {α : Type} (P : Program) (K : Kd P α) (p n : Nat) (ys : List α) (o : Oper) (ρ : Operand → Value) (_ : Mem) : MD :=
  ⟨[], fun E => [(p, .p (SlE K.en K.z K.T (.slice (some ⟨E.blk 0, 0, none⟩) n n) ys))], [sE (fun w => (execOp ρ o).run P w) (fun w => .ok (.value (.slice (some ⟨w.heap.size, 0, none⟩) n n)) (w.alloc (.cells (slF K.en ys).toArray K.T))), sE ys.length n]⟩
theorem bsS_ok {α : Type} {P : Program} (K : Kd P α) (p n : Nat) (ys : List α) : MD.ok P (fun E => .slice (some ⟨E.blk 0, 0, none⟩) n n) (bsSD P K p n ys) [] := by
  intro o ρ C he w c hH
  simp only [bsSD, List.mem_cons, List.not_mem_nil, or_false, forall_eq_or_imp, forall_eq, sE] at he hH ⊢
  obtain ⟨he, rfl⟩ := he
  refine ⟨Env.of w.heap.size, fun _ => [(w.heap.size, .cells (slF K.en ys).toArray K.T (0, 0))], _, .inl (congrFun he w), ?_, by simpa using Step.alloc w (.cells (slF K.en ys).toArray K.T (0, 0))⟩
  refine .inr ⟨w.heap.size, 0, rfl, ?_⟩
  unfold rowZ
  rw [List.replicate_zero, List.flatten_nil, List.append_nil]
def bsS {α : Type} {P : Program} (K : Kd P α) (p n : Nat) (ys : List α) : Pre P := .m ⟨[], bsSD P K p n ys, bsS_ok K p n ys⟩
/-! Told by a run, where an entry holds. -/
def tvMD (P : Program) (q : Nat) (x : Ent) (s : Sem Value) (o : Oper) (ρ : Operand → Value) (_ : Mem) : MD := ⟨[(q, x)], fun _ => [], [sE (fun w => (execOp ρ o).run P w) (fun w => (vS s).run P w)]⟩
theorem tvM_ok {P : Program} {v : Value} (q : Nat) (x : Ent) (s : Sem Value) (h : ∀ bs, x.sat bs → ∀ w, s.run P w = .ok v w) : MD.ok P (fun _ => v) (tvMD P q x s) [] := by
  intro o ρ C he w c hH
  simp only [tvMD, List.mem_singleton, forall_eq, sE] at he hH ⊢
  have h2 : x.sat (c q) := hH.sat (q, x) (by simp)
  exact ⟨Env.zero, fun _ => [], w, .inl ((congrFun he w).trans (run_vS (h _ h2 w))), fun y h => by simp at h, by simpa using Step.refl w⟩
def tvM {P : Program} {v : Value} (q : Nat) (x : Ent) (s : Sem Value) (h : ∀ bs, x.sat bs → ∀ w, s.run P w = .ok v w) : Pre P := .m ⟨[], tvMD P q x s, tvM_ok q x s h⟩
/-! A copy into a row. -/
theorem run_cp0 {P : Program} (w : World) (T U TY elem : TypeId) (A : Addr) (dl dc : Nat) (a : Option Addr) (c : Nat) (hu : P.underlying T = some (.slice elem)) {i : TypeInfo} (hq : P.info? elem = some i) :
    (Builtin.copy_ #[T, U] TY #[.slice (some A) dl dc, .slice a 0 c]).run P w = .ok (goInt 0) w := by
  cases a <;> simp [Builtin.copy_, run_underlying hu, Builtin.lenOf, Builtin.firstCells, sizeOf, typeInfo, hq, storeCells, loadCells, loadCellsFrom]
theorem Step.same {w : World} {g : Nat} {o : Obj} (h : w.heap[g]? = some o) : Step [g] [(g, o)] w w := Step.put rfl rfl rfl rfl h (fun _ _ => rfl)
section
variable {α : Type} {P : Program}
def cpD (P : Program) (p g off dl dc : Nat) (cs cs' : Array Value) (t T U TY : TypeId) (q : Nat) (x : Ent) (u : Value) (o : Oper) (ρ : Operand → Value) (_ : Mem) : MD := ⟨[(p, ob g cs t), (q, x)], fun _ => [(p, ob g cs' t)], [sE (fun w => (execOp ρ o).run P w) (fun w => (sCopy T U TY (.slice (some ⟨g, off, none⟩) dl dc) u).run P w)]⟩
theorem cp_ok (K : Kd P α) (hk : K.k = 1) (p g off dl dc : Nat) (cs cs' : Array Value) (t U TY : TypeId) (q : Nat) (x : Ent) (u : Value) (ys : List α) (hx : ∀ bs, x.sat bs → SrE K.en u ys bs) (hd : ys.length ≤ dl) (hf : off + ys.length ≤ cs.size) (hc : (cs.toList.take off ++ slF K.en ys ++ cs.toList.drop (off + (slF K.en ys).length)).toArray = cs') :
    MD.ok P (fun _ => .int .i64 (ys.length : Int)) (cpD P p g off dl dc cs cs' t K.TS U TY q x u) [p] := by
  intro o ρ C he w c hH
  simp only [cpD, List.mem_singleton, forall_eq, sE] at he hH ⊢
  have hh := hH.has
  obtain ⟨hH1, hs⟩ := hH.two
  obtain ⟨hcp, hb⟩ := hH1.one
  obtain ⟨ht, ⟨i, zv, hi, hz, hsz, hzc, hby⟩, h0⟩ := K.hT
  have hl : (slF K.en ys).length = ys.length := by rw [slF_lenk (n := ys.length) (k := 1) (fun y => (K.hk y).trans hk) rfl, Nat.mul_one]
  rcases hx _ hs with ⟨rfl, a, c2, rfl⟩ | ⟨g2, off2, cs2, t2, fr, c2, rfl, hm, hrd⟩
  · have e : cs' = cs := by
      rw [← hc]
      apply Array.ext'
      simp [slF]
    subst e
    refine ⟨Env.zero, fun _ => [(g, .cells cs' t (0, 0))], w, .inl ((congrFun he w).trans (run_vS (run_cp0 w K.TS U TY K.T ⟨g, off, none⟩ dl dc a c2 ht hi))), rfl, by simpa [hcp, ids] using Step.same hb⟩
  · have hb2 : w.heap[g2]? = some (.cells cs2 t2 fr) := hh.obj _ (List.mem_flatMap.2 ⟨(q, x), by simp, hm⟩)
    have hr := run_copy_row (P := P) w K.TS U TY K.T g off dl dc ⟨g2, off2, none⟩ ys.length c2 cs t (slF K.en ys) ht (by rw [hi, Option.map_some, hsz, ← K.hz, hk]) hb (by rw [hl]; exact (Nat.min_eq_left hd).symm) (row_cells hb2 hrd) (by rw [hl]; exact hf) (by
      intro v hv
      obtain ⟨y, _, hy⟩ := List.mem_flatMap.1 hv
      exact K.one y v hy)
    rw [hc, hl] at hr
    exact ⟨Env.zero, fun _ => [(g, .cells cs' t (0, 0))], _, .inl ((congrFun he w).trans (run_vS hr)), rfl, by simpa [hcp, ids] using Step.setRow cs' hb⟩
def cpS (K : Kd P α) (p g off dl dc : Nat) (cs cs' : Array Value) (t U TY : TypeId) (q : Nat) (x : Ent) (u : Value) (ys : List α) (hx : ∀ bs, x.sat bs → SrE K.en u ys bs) (hd : ys.length ≤ dl) (hf : off + ys.length ≤ cs.size) (hc : (cs.toList.take off ++ slF K.en ys ++ cs.toList.drop (off + (slF K.en ys).length)).toArray = cs') (hk : K.k = 1 := by rfl) : MH P (fun _ => .int .i64 (ys.length : Int)) := ⟨[p], cpD P p g off dl dc cs cs' t K.TS U TY q x u, cp_ok K hk p g off dl dc cs cs' t U TY q x u ys hx hd hf hc⟩
theorem row_src {en : α → List Value} {d : α} {a m c : Nat} {ys : List α} {t : TypeId} (h1 : ∀ x, (en x).length = 1) (h : ys.length = m) : SrE en (.slice (some ⟨a, 0, none⟩) m c) ys [(a, .cells ((rowL en d m ys).toArray) t (0, 0))] :=
  .inr ⟨a, 0, _, t, (0, 0), c, by rw [h], by simp, rL_whole (d := d) h⟩
end
end Go.Proofs.Ytdglhppcfdpcaaa.E
