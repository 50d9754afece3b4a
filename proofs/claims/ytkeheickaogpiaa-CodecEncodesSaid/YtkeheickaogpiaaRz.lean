/- Parts of rows: slicing, copying, arrays in arrays: for walks by evaluation. No program in sight. -/
import Derived.Test.YtkeheickaogpiaaRy
import Derived.Test.YtkeheickaogpiaaOwA
import Derived.Laws.Small
namespace Go.Proofs.Ytkeheickaogpiaa
open Go Go.RowKit Go.Shelf
set_option linter.unusedSimpArgs false
section
variable {α : Type} {e : α → List Value} {d : α} {xs ys : List α} {n l m N r : Nat} {z : List Value}
theorem sl_takedrop (h : ∀ x, (e x).length = 1) (hx : l + m ≤ xs.length) : ((slF e xs).drop l).take m = slF e ((xs.drop l).take m) := by
  have h1 : ∀ (l : Nat) (xs : List α), (slF e xs).drop l = slF e (xs.drop l) := by
    intro l
    induction l with
    | zero => intro xs; rfl
    | succ l ih =>
      intro xs
      cases xs with
      | nil => simp [slF]
      | cons x xs =>
        rw [List.drop_succ_cons, ← ih, show slF e (x :: xs) = e x ++ slF e xs from List.flatMap_cons .., Nat.add_comm l 1, ← List.drop_drop, List.drop_left' (h x)]
  have h2 : ∀ (m : Nat) (xs : List α), m ≤ xs.length → (slF e xs).take m = slF e (xs.take m) := by
    intro m
    induction m with
    | zero => intro xs _; rfl
    | succ m ih =>
      intro xs hm
      cases xs with
      | nil => simp at hm
      | cons x xs =>
        rw [List.take_succ_cons, show slF e (x :: xs) = e x ++ slF e xs from List.flatMap_cons .., show slF e (x :: xs.take m) = e x ++ slF e (xs.take m) from List.flatMap_cons .., ← ih xs (by simpa using hm), Nat.add_comm m 1, List.take_append, List.take_of_length_le (by rw [h]; omega), h, Nat.add_sub_cancel_left]
  rw [h1, h2 _ _ (by rw [List.length_drop]; omega)]
theorem rL_sub (h : ∀ x, (e x).length = 1) (hx : xs.length = N) (hl : l + m ≤ N) : (((rowL e d N xs).toArray).toList.drop (l * 1)).take (slF e ((xs.drop l).take m)).length = slF e ((xs.drop l).take m) := by
  rw [slF_lenk (n := m) h (by rw [List.length_take, List.length_drop]; omega), Nat.mul_one, Nat.mul_one, rowL_sl hx]
  exact sl_takedrop h (by omega)
theorem rL_subrow (h : ∀ x, (e x).length = 1) (hx : xs.length = N) (hl : l + m ≤ N) : (((rowL e d N xs).toArray).toList.drop (l * 1)).take (rowL e d m ((xs.drop l).take m)).length = rowL e d m ((xs.drop l).take m) := by
  rw [rowL_sl (n := m) (by rw [List.length_take, List.length_drop]; omega)]
  exact rL_sub h hx hl
theorem rL_subrow' (h : ∀ x, (e x).length = 1) (hx : xs.length = N) (hl : l * m + m ≤ N) : (((rowL e d N xs).toArray).toList.drop (0 + l * m)).take (rowL e d m ((xs.drop (l * m)).take m)).length = rowL e d m ((xs.drop (l * m)).take m) := by
  have := rL_subrow (l := l * m) (d := d) h hx hl
  rw [Nat.mul_one] at this
  rw [Nat.zero_add]
  exact this
theorem z_subrow (hx : xs.length = m) : ((rowZ (slF e xs) z r).toList.drop 0).take (rowL e d m xs).length = rowL e d m xs := by
  rw [rowL_sl hx]
  exact rowZ_part
theorem rL_splice {off : Nat} (h : ∀ x, (e x).length = 1) (hx : xs.length = N) (hy : ys.length = m) (hl : off + m ≤ N) : ((rowL e d N xs).toArray).toList.take off ++ slF e ys ++ ((rowL e d N xs).toArray).toList.drop (off + (slF e ys).length) = ((rowL e d N (xs.take off ++ ys ++ xs.drop (off + m))).toArray).toList := by
  show (rowL e d N xs).take off ++ slF e ys ++ (rowL e d N xs).drop (off + (slF e ys).length) = rowL e d N (xs.take off ++ ys ++ xs.drop (off + m))
  rw [rowL_sl hx, rowL_sl (n := N) (by rw [List.length_append, List.length_append, List.length_take, List.length_drop]; omega), slF_app, slF_app, slF_lenk (n := m) h hy, Nat.mul_one]
  have h1 := sl_takedrop (e := e) (xs := xs) (l := 0) (m := off) h (by omega)
  have h2 := sl_takedrop (e := e) (xs := xs) (l := off + m) (m := N - (off + m)) h (by omega)
  rw [List.drop_zero, List.drop_zero] at h1
  rw [h1]
  rw [List.take_of_length_le (by rw [List.length_drop, slF_lenk (n := N) h hx]; omega), List.take_of_length_le (by rw [List.length_drop]; omega)] at h2
  rw [h2]
end
section
variable {P : Program} {T e U : TypeId} {w : World}
theorem sl_arm {g l m s N : Nat} (hT : (P.underlying T, P.arrayLen T, sizB P (P.elem T)) = (some (.array N (P.elem T)), N, some s)) (h2 : l + m ≤ N) (h3 : l < N) : (Instr.sliceAt T (.pointer (some ⟨g, 0, none⟩)) (some (.int .i64 (l : Int))) (some (.int .i64 ((l + m : Nat) : Int))) none).run P w = .ok (.slice (some ⟨g, l * s, none⟩) m (N - l)) w := by
  have h := sl_ar (w := w) (g := g) (h := l + m) hT (by omega) h2 h3
  rwa [Nat.add_sub_cancel_left] at h
theorem acts_appE {α : Type} {en : α → List Value} {ys : List α} {z : List Value} {g m c p q off : Nat} {a : Nat} {t' TY : TypeId} {cs2 : Array Value} (hT : SlT P T e z) (hm : (slF en ys).length = m * z.length) (hN : (cs2.toList.drop off).take (slF en ys).length = slF en ys) (h1 : ∀ u ∈ slF en ys, u.oneCell' = true) (hb : m ≤ 1000000) :
    ActsS P (sApp T TY (.slice (some ⟨g, 0, none⟩) 0 0) (.slice (some ⟨a, off, none⟩) m c)) (fun E => .slice (some ⟨E.blk 0, 0, none⟩) m (m + E.num 0)) [(p, (g, .cells #[] e (0, 0))), (q, (a, .cells cs2 t' (0, 0)))] [g] (fun E => [(p, (E.blk 0, .cells (rowZ (slF en ys) z (E.num 0)) e (0, 0)))]) := by
  have h := acts_appF (en := en) (xs := []) (ys := ys) (g := g) (r := 0) (n := 0) (p := p) (q := q) (c := c) (TY := TY) (a := a) (t' := t') (cs2 := cs2) (off := off) hT (by simp [slF]) hm hN h1 (by omega)
  simp only [Nat.zero_add, Nat.add_zero, List.nil_append] at h
  exact h
theorem acts_copyF {α : Type} {en : α → List Value} {d : α} {xs ys : List α} {z : List Value} {g l m N dl dc so sc p q a : Nat} {t t' TY : TypeId} {cs2 : Array Value} (hT : SlT P T e z) (hz : z.length = 1) (h : ∀ x, (en x).length = 1) (hx : xs.length = N) (hy : ys.length = m) (hl : l + m ≤ N) (hd : m ≤ dl) (hN : (cs2.toList.drop so).take (slF en ys).length = slF en ys) (h1 : ∀ u ∈ slF en ys, u.oneCell' = true) :
    ActsS P (sCopy T U TY (.slice (some ⟨g, l * 1, none⟩) dl dc) (.slice (some ⟨a, so, none⟩) m sc)) (fun _ => .int .i64 (m : Int)) [(p, (g, .cells ((rowL en d N xs).toArray) t (0, 0))), (q, (a, .cells cs2 t' (0, 0)))] [g] (fun _ => [(p, (g, .cells ((rowL en d N (xs.take l ++ ys ++ xs.drop (l + m))).toArray) t (0, 0)))]) := by
  refine acts_copy (news := slF en ys) hT (Nat.min_eq_left hd) (by rw [slF_lenk (n := m) h hy, hz]) hN h1 ?_ ?_
  · rw [slF_lenk (n := m) h hy, List.size_toArray, rowL_len h]
    omega
  · have := rL_splice (d := d) (off := l) h hx hy hl
    rw [Nat.mul_one]
    exact this
/-- A row of a row of rows. -/
theorem index_sub {α : Type} {en : α → List Value} {d : α} {xs : List α} {n m N k : Nat} (hT : (P.underlying T, (P.info? e).map (·.size), aggB P e) = (some (.array n e), some m, true)) (h : ∀ x, (en x).length = 1) (hk : k < n) (hN : n * m = N) (hx : xs.length = N) : (Instr.index T (.agg ((rowL en d N xs).toArray)) (.int .i64 (k : Int))).run P w = .ok (.agg ((rowL en d m ((xs.drop (k * m)).take m)).toArray)) w := by
  have hu : P.underlying T = some (.array n e) := congrArg (·.1) hT
  have hs : (P.info? e).map (·.size) = some m := congrArg (·.2.1) hT
  have ha : aggB P e = true := congrArg (·.2.2) hT
  obtain ⟨inf, hq⟩ : ∃ i, P.info? e = some i := by cases h : P.info? e <;> simp_all
  have hz : inf.size = m := by simpa [hq] using hs
  have hue : ∃ t, P.underlying e = some t := by
    unfold aggB at ha
    cases hq : P.underlying e with
    | none => rw [hq] at ha; cases ha
    | some t => exact ⟨t, rfl⟩
  obtain ⟨te, hte⟩ := hue
  have hb : k * m + m ≤ N := by
    have := Nat.mul_le_mul_right m (show k + 1 ≤ n from hk)
    rw [Nat.succ_mul] at this
    omega
  have hp := part_asV (xs := (rowL en d N xs).toArray) (off := k * m) hte hs (fun h => by rw [ha] at h; cases h) (by rw [List.size_toArray, rowL_len h]; omega) w
  have e1 := rL_subrow' (d := d) (l := k) (m := m) h hx hb
  rw [Nat.zero_add, rowL_len h, Nat.mul_one] at e1
  rw [e1] at hp
  unfold Instr.index
  simp [asIntOf, Sem.run_bind, run_underlying hu, sizeOf, typeInfo, hq, hz, hp, asV, ha, hk]
end
theorem cN {F : Fence} {n : Nat} {P : Program} {f : FuncId} {args : Array Value} {w' : World} {v : Value} {O : List Nat} {wt : Wr} (h : CallsIn F n P f args w' fun e w'' => e = .returned v ∧ Step O (wt.map (·.2)) w' w'') : CallsIn F n P f args w' fun e w'' => ∃ E : Env, e = .returned ((fun _ => v) E) ∧ Step O (((fun _ => wt) E : Wr).map (·.2)) w' w'' := h.mono fun _ _ h => ⟨Env.zero, h⟩
theorem eq_of_bne_false {α : Type} [BEq α] [LawfulBEq α] {a b : α} (h : (a != b) = false) : a = b := by simpa using h
theorem run_maxI {P : Program} {w : World} (ts : Array TypeId) (t : TypeId) (x y : Int) : (Builtin.max_ ts t #[.int .i64 x, .int .i64 y]).run P w = .ok (.int .i64 (max x y)) w := by
  rw [run_max_int2]
  congr 2
  split <;> omega
section
variable {P : Program} {T e : TypeId}
/-- Appending to an array's slice that has no room. -/
theorem acts_appR {α : Type} {en : α → List Value} {d : α} {xs ys : List α} {z : List Value} {g n m c p q off : Nat} {a : Nat} {t t' TY : TypeId} {cs2 : Array Value} (hT : SlT P T e z) (h : ∀ x, (en x).length = 1) (hz1 : z.length = 1) (hx : xs.length = n) (hm : (slF en ys).length = m * z.length) (hN : (cs2.toList.drop off).take (slF en ys).length = slF en ys) (h0m : 0 < m) (hb : n + m ≤ 1000000) :
    ActsS P (sApp T TY (.slice (some ⟨g, 0, none⟩) n n) (.slice (some ⟨a, off, none⟩) m c)) (fun E => .slice (some ⟨E.blk 0, 0, none⟩) (n + m) (n + m + E.num 0)) [(p, (g, .cells ((rowL en d n xs).toArray) t (0, 0))), (q, (a, .cells cs2 t' (0, 0)))] [g] (fun E => [(p, (E.blk 0, .cells (rowZ (slF en (xs ++ ys)) z (E.num 0)) e (0, 0)))]) := by
  intro w H
  obtain ⟨ht, ⟨i, zv, hi, hz, hs, hzc, hby⟩, h0⟩ := hT
  have hg : w.heap[g]? = some (.cells ((rowL en d n xs).toArray) t (0, 0)) := H.obj (g, _) (by simp)
  have ha : w.heap[a]? = some (.cells cs2 t' (0, 0)) := H.obj (a, _) (by simp)
  have hnews := row_cells ha hN
  have hge := grownCap_ge w (n + m) n e
  obtain ⟨G, hG⟩ : ∃ G, grownCap w (n + m) n e = G := ⟨_, rfl⟩
  rw [hG] at hge
  have hbb : (n + m) * i.bytes ≤ 140737488355328 := Nat.le_trans (Nat.mul_le_mul hb hby) (by decide)
  have hold := row_cells (news := slF en xs) hg (off := 0) (rL_whole hx)
  have hn : (slF en xs).length = n * z.length := by rw [slF_lenk (n := n) h hx, hz1]
  have h := run_append_grow (P := P) w T TY e i zv ht hi hz ⟨g, 0, none⟩ n n (slF en xs) (by rw [hs]; exact hn) hold ⟨a, off, none⟩ m c (slF en ys) (by rw [hs]; exact hm) hnews (by omega) (by omega) (growslice_fits (by omega) hbb)
  rw [hG] at h
  have e1 : (slF en xs).toArray ++ (slF en ys).toArray ++ Builtin.zeroCells zv.cells (G - (n + m)) = rowZ (slF en (xs ++ ys)) z (G - (n + m)) := by
    have hzz : 0 < zv.cells.size := by rw [← Array.length_toList, hzc]; exact h0
    apply Array.toList_inj.1
    unfold rowZ
    simp only [Array.toList_append, zeroCells_flat _ _ hzz, hzc, slF_app]
  rw [e1] at h
  have hal := (Below.refl w.heap.size w.drew).alloc (Nat.le_refl _) (.cells (rowZ (slF en (xs ++ ys)) z (G - (n + m))) e)
  exact ⟨⟨fun _ => w.heap.size, fun _ => [], fun _ => G - (n + m)⟩, _, .inl (run_vSw (by rw [h]; simp only; rw [show n + m + (G - (n + m)) = G by omega])),
    hal.os, hal.tape, hal.output, hal.size, fun x hx => by obtain rfl := List.mem_singleton.1 hx; exact World.alloc_heap_new w.drew _, fun x hx => by obtain rfl := List.mem_singleton.1 hx; exact .inr (Nat.le_refl _), List.pairwise_singleton _ _, fun b hb _ => hal.block b hb⟩
end
theorem rL_spliceR {α : Type} {e : α → List Value} {d : α} {xs ys : List α} {m N off : Nat} (h : ∀ x, (e x).length = 1) (hx : xs.length = N) (hy : ys.length = m) (hl : off + m ≤ N) : ((rowL e d N xs).toArray).toList.take off ++ rowL e d m ys ++ ((rowL e d N xs).toArray).toList.drop (off + (rowL e d m ys).length) = ((rowL e d N (xs.take off ++ ys ++ xs.drop (off + m))).toArray).toList := by
  rw [rowL_sl (n := m) hy]
  exact rL_splice h hx hy hl
theorem rL_le {α : Type} {e : α → List Value} {d : α} {xs ys : List α} {m N off : Nat} (h : ∀ x, (e x).length = 1) (hl : off + m ≤ N) : off + (rowL e d m ys).length ≤ ((rowL e d N xs).toArray).size := by
  rw [List.size_toArray, rowL_len h, rowL_len h, Nat.mul_one, Nat.mul_one]
  exact hl
theorem rL_one {α : Type} {g : α → Value} {d : α} {xs : List α} {n : Nat} (hg : ∀ x, (g x).oneCell' = true) (hx : xs.length = n) : ∀ u ∈ rowL (fun x => [g x]) d n xs, u.oneCell' = true := by
  rw [rowL_sl hx]
  exact slF_one hg xs
end Go.Proofs.Ytkeheickaogpiaa
