/- Slices that are only read, as arrays; parts of parts of an array. No program in sight. -/
import Derived.Test.YtdglhppcfdpcaaaGz
import Derived.Test.YtdglhppcfdpcaaaEeE
set_option linter.unusedVariables false
namespace Go.Proofs.Ytdglhppcfdpcaaa.E
open Go Go.RowKit Go.Shelf
section
variable {α : Type} {P : Program} {en : α → List Value} {v : Value} {xs : List α}
def apRD (P : Program) (p : Nat) (x : Ent) (v : Value) (n : Nat) (o : Oper) (ρ : Operand → Value) (_ : Mem) : MD := match o.op with
  | .sliceToArrayPointer T a => ⟨[(p, x)], fun _ => [], [sE (ρ a) v, sE (P.underlying T) (some (.array n (P.elem T)))]⟩
  | _ => MD.bad
theorem apR_ok (p : Nat) (x : Ent) (n : Nat) (h : ∀ bs, x.sat bs → SrE en v xs bs) (h0 : 0 < n) (hn : n ≤ xs.length) : MD.ok P (fun _ => ixV v 0) (apRD P p x v n) [] := by
  intro o ρ C he w c hH
  unfold apRD at he hH ⊢
  split at he
  · rename_i T a hop
    simp only [hop] at hH ⊢
    simp only [List.mem_cons, List.not_mem_nil, or_false, forall_eq_or_imp, forall_eq, sE] at he
    obtain ⟨ha, hT⟩ := he
    obtain ⟨h1, h2⟩ := hH.ent
    obtain ⟨g, off, cs, t, fr, c', rfl, _⟩ := (h _ h1).some (i := 0) (by omega)
    refine ⟨Env.zero, fun _ => [], w, .inl ?_, fun x h => by simp at h, by simpa using Step.refl w⟩
    unfold execOp
    simp only [hop, ha, Sem.run_bind, run_arrayAt w T (P.elem T) n _ _ _ hT (by omega), Result.andThen_ok, Sem.run_pure, ixV, add_lit, Nat.add_zero]
  · exact (sB_false he).elim
/-- An array's place, of a slice. -/
def apR (p : Nat) (x : Ent) (n : Nat) (h : ∀ bs, x.sat bs → SrE en v xs bs) (h0 : 0 < n) (hn : n ≤ xs.length) : MH P (fun _ => ixV v 0) := ⟨[], apRD P p x v n, apR_ok p x n h h0 hn⟩
theorem laR_ok (p : Nat) (x : Ent) (n : Nat) (l : List Value) (h : ∀ bs, x.sat bs → SrE en v xs bs) (hl : slF en xs = l) (h0 : 0 < xs.length) (hn : l.length = n) : MD.ok P (fun _ => .agg l.toArray) (lsSD P p x v 0 n) [] := by
  intro o ρ C he w c hH
  unfold lsSD at he hH ⊢
  split at he
  · rename_i T' a hop
    simp only [hop] at hH ⊢
    simp only [List.mem_cons, List.not_mem_nil, or_false, forall_eq_or_imp, forall_eq, sE, sB] at he
    obtain ⟨ha, hg, hs⟩ := he
    obtain ⟨h1, h2⟩ := hH.ent
    obtain ⟨g, of, cs, t, fr, c', rfl, hb, hN⟩ := (h _ h1).some h0
    refine ⟨Env.zero, fun _ => [], w, .inl ?_, fun x h => by simp at h, by simpa using Step.refl w⟩
    unfold execOp
    simp only [ixV, add_lit, Nat.add_zero] at ha
    rw [hl] at hN
    simp only [hop, ha, Instr.loadAt, Instr.sureAddr, Sem.run_bind, Sem.run_pure, Result.andThen_ok, run_lsR (h2.obj _ hb) hN hg (by rw [hs, hn])]
  · exact (sB_false he).elim
/-- The array of a slice's elements. -/
def laR (p : Nat) (x : Ent) (n : Nat) (l : List Value) (h : ∀ bs, x.sat bs → SrE en v xs bs) (hl : slF en xs = l) (h0 : 0 < xs.length) (hn : l.length = n) : MH P (fun _ => .agg l.toArray) := ⟨[], lsSD P p x v 0 n, laR_ok p x n l h hl h0 hn⟩
theorem rowL_n {d : α} {n : Nat} (hk : ∀ x, (en x).length = 1) (h : xs.length = n) : (rowL en d n xs).length = n := by rw [rowL_sl h, slF_lenk hk h, Nat.mul_one]
end

section
variable {α : Type} {P : Program} {en : α → List Value} {z : List Value} {e : TypeId} {xs ys : List α}
/-- Appending to a slice without room, of a block told. -/
theorem run_appF {T' TY : TypeId} (hT : SlT P T' e z) (hlen : ∀ y, (en y).length = z.length) (h1 : ∀ y, ∀ u ∈ en y, u.oneCell' = true) {w : World} {g : Nat} {cs : Array Value} {t : TypeId} (hg : w.heap[g]? = some (.cells cs t (0, 0)))
    (hcs : (cs.toList.drop 0).take (slF en xs).length = slF en xs) {A : Addr} {c : Nat} (hy : 0 < ys.length) (hnews : ∀ j u, (slF en ys)[j]? = some u → w.cell? (A.add j) = some u) (hb : xs.length + ys.length ≤ 1000000) :
    ∃ v' bs' w', (Builtin.append_ #[T', T'] TY #[.slice (some ⟨g, 0, none⟩) xs.length xs.length, .slice (some A) ys.length c]).run P w = .ok v' w' ∧ SlE en z e v' (xs ++ ys) bs' ∧ Step [] bs' w w' := by
  obtain ⟨ht, ⟨i, zv, hi, hz, hs, hzc, hby⟩, h0⟩ := hT
  have hzz : 0 < zv.cells.size := by rw [← Array.length_toList, hzc]; exact h0
  have hm : (slF en ys).length = ys.length * i.size := by rw [hs]; exact slF_lenk hlen rfl
  have hn : (slF en xs).length = xs.length * i.size := by rw [hs]; exact slF_lenk hlen rfl
  have hbb : (xs.length + ys.length) * i.bytes ≤ 140737488355328 := Nat.le_trans (Nat.mul_le_mul hb hby) (by decide)
  have hold := row_cells (news := slF en xs) hg (off := 0) hcs
  have h := run_append_grow (P := P) w T' TY e i zv ht hi hz ⟨g, 0, none⟩ xs.length xs.length (slF en xs) hn hold A ys.length c (slF en ys) hm hnews (by omega) (by omega) (growslice_fits (by omega) hbb)
  have hge := grownCap_ge w (xs.length + ys.length) xs.length e
  have e1 : (slF en xs).toArray ++ (slF en ys).toArray ++ Builtin.zeroCells zv.cells (grownCap w (xs.length + ys.length) xs.length e - (xs.length + ys.length)) = rowZ (slF en (xs ++ ys)) z (grownCap w (xs.length + ys.length) xs.length e - (xs.length + ys.length)) := by
    apply Array.toList_inj.1
    unfold rowZ
    simp only [Array.toList_append, zeroCells_flat _ _ hzz, hzc, slF_app]
  rw [e1] at h
  refine ⟨_, _, _, h, .inr ⟨w.heap.size, grownCap w (xs.length + ys.length) xs.length e - (xs.length + ys.length), by rw [List.length_append]; congr 1; omega, rfl⟩, ?_⟩
  have hal := (Below.refl w.heap.size w.drew).alloc (Nat.le_refl _) (.cells (rowZ (slF en (xs ++ ys)) z (grownCap w (xs.length + ys.length) xs.length e - (xs.length + ys.length))) e)
  exact ⟨hal.os, hal.tape, hal.output, hal.size, fun x hx => by obtain rfl := List.mem_singleton.1 hx; exact World.alloc_heap_new w.drew _, fun x hx => by obtain rfl := List.mem_singleton.1 hx; exact .inr (Nat.le_refl _), List.pairwise_singleton _ _, fun b hb _ => hal.block b hb⟩
def apAD (P : Program) (p p0 q : Nat) (T' : TypeId) (g n : Nat) (cs : Array Value) (t : TypeId) (u : Value) (xq : Ent) (y : Env → Ent) (o : Oper) (ρ : Operand → Value) (C : Mem) : MD :=
  ⟨[(p0, ob g cs t), (q, xq)], fun E => [(p, y E)], [sE (fun w => (execOp ρ o).run P w) (fun w => (sApp T' o.type (.slice (some ⟨g, 0, none⟩) n n) u).run P w)]⟩
theorem apA_ok {T' : TypeId} (p p0 q g n : Nat) (cs : Array Value) (t : TypeId) (hT : SlT P T' e z) (u : Value) (xq : Ent) (hx : ∀ bs, xq.sat bs → SrE en u ys bs) (hlen : ∀ y, (en y).length = z.length) (h1 : ∀ y, ∀ u ∈ en y, u.oneCell' = true) (hn : xs.length = n) (hcs : (cs.toList.drop 0).take (slF en xs).length = slF en xs) (hy : 0 < ys.length) (hb : xs.length + ys.length ≤ 1000000) :
    MD.ok P (fun E => E.val 0) (apAD P p p0 q T' g n cs t u xq (fun E => .p (SlE en z e (E.val 0) (xs ++ ys)))) [] := by
  subst hn
  intro o ρ C he w c hH
  simp only [apAD, List.mem_cons, List.not_mem_nil, or_false, forall_eq, sE] at he hH ⊢
  have hp : c p0 = [(g, .cells cs t (0, 0))] := hH.sat (p0, ob g cs t) (by simp)
  have hq : SrE en u ys (c q) := hx _ (hH.sat (q, xq) (by simp))
  have hh := hH.has
  simp only [List.flatMap_cons, List.flatMap_nil, List.append_nil] at hh
  have hg : w.heap[g]? = some (.cells cs t (0, 0)) := hh.obj (g, .cells cs t (0, 0)) (by rw [hp]; simp)
  have hhq : Has (c q) w := ⟨fun x hx => hh.obj x (List.mem_append_right _ hx), (List.pairwise_append.1 hh.nd).2.1⟩
  rcases hq with ⟨rfl, _⟩ | ⟨g2, off, cs2, t2, fr, c2, rfl, hbs, hN⟩
  · simp at hy
  · obtain ⟨v', bs', w', hr, hs, hst⟩ := run_appF (TY := o.type) (c := c2) hT hlen h1 hg hcs hy (row_cells (hhq.obj _ hbs) hN) hb
    exact ⟨Env.ov v', fun _ => bs', w', .inl ((congrFun he w).trans (run_vS' hr)), hs, by simpa using hst⟩
def apA {T' : TypeId} (p p0 q g n : Nat) (cs : Array Value) (t : TypeId) (hT : SlT P T' e z) (u : Value) (xq : Ent) (hx : ∀ bs, xq.sat bs → SrE en u ys bs) (h1 : ∀ y, ∀ u ∈ en y, u.oneCell' = true) (hlen : ∀ y, (en y).length = z.length) (hn : xs.length = n) (hcs : (cs.toList.drop 0).take (slF en xs).length = slF en xs) (hy : 0 < ys.length) (hb : xs.length + ys.length ≤ 1000000) : MH P (fun E => E.val 0) :=
  ⟨[], apAD P p p0 q T' g n cs t u xq (fun E => .p (SlE en z e (E.val 0) (xs ++ ys))), apA_ok p p0 q g n cs t hT u xq hx hlen h1 hn hcs hy hb⟩
/-- The rows of an array behind those of another one. -/
def apK (K : Kd P α) (p p0 q g n : Nat) (cs : Array Value) (t : TypeId) (xs ys : List α) (u : Value) (xq : Ent) (hx : ∀ bs, xq.sat bs → SrE K.en u ys bs) (hn : xs.length = n) (hcs : (cs.toList.drop 0).take (slF K.en xs).length = slF K.en xs) (hy : 0 < ys.length) (hb : xs.length + ys.length ≤ 1000000) : MH P (fun E => E.val 0) := apA (xs := xs) p p0 q g n cs t K.hT u xq hx K.one K.lz hn hcs hy hb
end
end Go.Proofs.Ytdglhppcfdpcaaa.E
