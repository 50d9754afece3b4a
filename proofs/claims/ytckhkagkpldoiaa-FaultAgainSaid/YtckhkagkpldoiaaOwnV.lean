/- Rules for operations, each found by the slot that it writes; the place of a new block is a variable. No program in sight. -/
import Derived.Test.YtckhkagkpldoiaaOwnI
import Derived.Laws.StructEq
namespace Go.Proofs.Ytckhkagkpldoiaa
open Go Go.RowKit

section
variable {F : Fence} {n : Nat} {P : Program} {ops : Array Oper} {Q : Exit → Act → World → Prop} {a : Act} {W W' : World} {rest : List Oper} {o : Oper} {B G : Nat} {base : World} {L : Objs}
theorem own_allocV [FreeF F] (D : Tmp) (T : TypeId) (ho : o.op = .alloc T) (_ : o.dst = some D) (hw : Region.wanted o (yielded ops a.tmps) = true) (cs : Array Value) (hr : ∀ w : World, (Instr.alloc T true (.tuple #[])).run P w = .ok (.pointer (some ⟨w.heap.size, 0, none⟩)) (w.alloc (.cells cs T)))
    (OW : Hid (Own B base L W)) (OZ : Hid (W.heap.size = G ∧ B ≤ G)) (h : ∀ (W2 : World) (G2 : Nat), Hid (Own B base (L ++ [(G, .cells cs T (0, 0))]) W2) → Hid (W2.heap.size = G2 ∧ B ≤ G2) → wpListIn F n P ops Q rest (a.put o.dst (.pointer (some ⟨G, 0, none⟩))) W2) : wpListIn F n P ops Q (o :: rest) a W :=
  own_alloc T ho hw cs hr OW OZ fun W2 h1 h2 => h W2 _ h1 h2
theorem own_boxV [FreeF F] (D : Tmp) (T : TypeId) (x : Operand) (ho : o.op = .box T x) (_ : o.dst = some D) (hw : Region.wanted o (yielded ops a.tmps) = true) (v : Value) (hx : a.eval x = v) (cs : Array Value) (hv : v.cells = cs)
    (OW : Hid (Own B base L W)) (OZ : Hid (W.heap.size = G ∧ B ≤ G)) (h : ∀ (W2 : World) (G2 : Nat), Hid (Own B base (L ++ [(G, .cells cs T (0, 0))]) W2) → Hid (W2.heap.size = G2 ∧ B ≤ G2) → wpListIn F n P ops Q rest (a.put o.dst (.pointer (some ⟨G, 0, none⟩))) W2) : wpListIn F n P ops Q (o :: rest) a W :=
  own_box T x ho hw v hx cs hv OW OZ fun W2 h1 h2 => h W2 _ h1 h2
theorem own_loadV [FreeF F] (D : Tmp) (k : Nat) (T : TypeId) (x : Operand) (ho : o.op = .load T x) (_ : o.dst = some D) (hw : Region.wanted o (yielded ops a.tmps) = true) {g i : Nat} {t : TypeId} {cs : Array Value} (hk : L[k]? = some (g, .cells cs t (0, 0))) (hx : a.eval x = .pointer (some ⟨g, i, none⟩)) (v : Value) (hv : cs[i]? = some v)
    (hna : ∀ w, (isAgg T).run P w = .ok false w) (OW : Hid (Own B base L W)) (h : wpListIn F n P ops Q rest (a.put o.dst v) W) : wpListIn F n P ops Q (o :: rest) a W :=
  own_load k T x ho hw hk hx v hv hna OW h
theorem own_loadSubV [FreeF F] (D : Tmp) (k off : Nat) (T : TypeId) (x : Operand) (ho : o.op = .load T x) (_ : o.dst = some D) (hw : Region.wanted o (yielded ops a.tmps) = true) {g : Nat} {t : TypeId} {cs : Array Value} (hk : L[k]? = some (g, .cells cs t (0, 0))) (hx : a.eval x = .pointer (some ⟨g, off, none⟩)) (l : List Value) (hl : (cs.toList.drop off).take l.length = l) {d : TypeDesc}
    (hu : P.underlying T = some d) (hd : (match d with | .struct _ | .array _ _ => true | _ => false) = true) (hi : (P.info? T).map (·.size) = some l.length) (OW : Hid (Own B base L W)) (h : wpListIn F n P ops Q rest (a.put o.dst (.agg l.toArray)) W) : wpListIn F n P ops Q (o :: rest) a W :=
  wpListIn_val hw (by unfold noDefer; rw [ho]) (.agg l.toArray) (W' := W) (by unfold execOp; simp only [ho, hx, Instr.loadAt, Instr.sureAddr, Sem.run_bind, Sem.run_pure, Result.andThen_ok, run_loadVar_sub W g off t T cs l (OW.out.get hk) hl hu hd hi]) h
theorem own_loadRowV [FreeF F] (D : Tmp) (k : Nat) (T : TypeId) (x : Operand) (ho : o.op = .load T x) (_ : o.dst = some D) (hw : Region.wanted o (yielded ops a.tmps) = true) {g : Nat} {t : TypeId} {cs : Array Value} (hk : L[k]? = some (g, .cells cs t (0, 0))) (hx : a.eval x = .pointer (some ⟨g, 0, none⟩)) (d : TypeDesc)
    (hu : P.underlying T = some d) (hd : (match d with | .struct _ | .array _ _ => true | _ => false) = true) (hi : (P.info? T).map (·.size) = some cs.size) (OW : Hid (Own B base L W)) (h : wpListIn F n P ops Q rest (a.put o.dst (.agg cs)) W) : wpListIn F n P ops Q (o :: rest) a W :=
  own_loadRow k T x ho hw hk hx d hu hd hi OW h
/-- Any operation that leaves the world alone. -/
theorem own_valV [FreeF F] (D : Tmp) (_ : o.dst = some D) (hw : Region.wanted o (yielded ops a.tmps) = true) (hnd : noDefer o = true) (v : Value) (hr : (execOp a.eval o).run P W = .ok (.value v) W) (h : wpListIn F n P ops Q rest (a.put o.dst v) W) : wpListIn F n P ops Q (o :: rest) a W :=
  wpListIn_val hw hnd v hr h
/-- A part of a block, stored. -/
theorem own_storeSub [FreeF F] (k off : Nat) (T : TypeId) (x y : Operand) (ho : o.op = .store T x y) (hw : Region.wanted o (yielded ops a.tmps) = true) {g : Nat} {t : TypeId} {cs : Array Value} (hk : L[k]? = some (g, .cells cs t (0, 0))) (hx : a.eval x = .pointer (some ⟨g, off, none⟩)) (l : List Value) (hy : a.eval y = .agg l.toArray)
    (hs : off + l.length ≤ cs.size) (h1 : l.all (·.oneCell') = true) (hsz : (P.info? T).map (·.size) = some l.length) (cs' : Array Value) (hcs : (cs.toList.take off ++ l ++ cs.toList.drop (off + l.length)).toArray = cs') (L' : Objs) (hL : L.set k (g, .cells cs' t (0, 0)) = L')
    (OW : Hid (Own B base L W)) (OZ : Hid (W.heap.size = G ∧ B ≤ G)) (h : ∀ W2 : World, Hid (Own B base L' W2) → Hid (W2.heap.size = G ∧ B ≤ G) → wpListIn F n P ops Q rest (a.put o.dst undef) W2) : wpListIn F n P ops Q (o :: rest) a W := by
  subst hL
  subst hcs
  have h2 := run_storeCells_at P g off t l 0 cs W (OW.out.get hk) (by omega) (fun v hv => (List.all_eq_true.1 h1) v hv)
  have hr : (storeVar T ⟨g, off, none⟩ (.agg l.toArray)).run P W = .ok () (W.setRow g (cs.toList.take off ++ l ++ cs.toList.drop (off + l.length)).toArray) := by
    cases hq : P.info? T with
    | none => simp [hq] at hsz
    | some inf =>
      have hs2 : inf.size = l.length := by simpa [hq] using hsz
      unfold storeVar
      simp only [sizeOf, typeInfo, Value.cells, Sem.run_bind]
      simp [hq, hs2, h2]
  refine wpListIn_skp hw (by unfold noDefer; rw [ho]) (W' := W.setRow g (cs.toList.take off ++ l ++ cs.toList.drop (off + l.length)).toArray) (by unfold execOp; simp only [ho, hx, hy, Instr.storeAt, Instr.sureAddr, Sem.run_bind, Sem.run_pure, Result.andThen_ok, hr]) ?_
  exact h _ (OW.out.setRow hk _) ⟨by simpa using OZ.out.1, OZ.out.2⟩
end
section
variable {P : Program} {w : World} {o : Oper} {ρ : Operand → Value}
theorem run_buildO {T : TypeId} {parts : Array (Nat × Operand)} (ho : o.op = .build T parts) {vs : Array (Nat × Value)} (hv : parts.map (fun (i, x) => (i, ρ x)) = vs) (cells : Array Value) (h : P.built T vs.toList = some cells) : (execOp ρ o).run P w = .ok (.value (.agg cells)) w := by
  unfold execOp
  simp only [ho, hv, Sem.run_bind, run_build (P := P) w T vs cells h, Result.andThen_ok, Sem.run_pure]
end
theorem mapE0 {f : Operand → Value} : (#[] : Array Operand).map f = #[] := by simp
theorem mapE1 {f : Operand → Value} {x0 : Operand} {v0 : Value} (h0 : f x0 = v0) : (#[x0] : Array Operand).map f = #[v0] := by simp [h0]
theorem mapE2 {f : Operand → Value} {x0 x1 : Operand} {v0 v1 : Value} (h0 : f x0 = v0) (h1 : f x1 = v1) : (#[x0, x1] : Array Operand).map f = #[v0, v1] := by simp [h0, h1]
theorem mapE3 {f : Operand → Value} {x0 x1 x2 : Operand} {v0 v1 v2 : Value} (h0 : f x0 = v0) (h1 : f x1 = v1) (h2 : f x2 = v2) : (#[x0, x1, x2] : Array Operand).map f = #[v0, v1, v2] := by simp [h0, h1, h2]
theorem mapE4 {f : Operand → Value} {x0 x1 x2 x3 : Operand} {v0 v1 v2 v3 : Value} (h0 : f x0 = v0) (h1 : f x1 = v1) (h2 : f x2 = v2) (h3 : f x3 = v3) : (#[x0, x1, x2, x3] : Array Operand).map f = #[v0, v1, v2, v3] := by simp [h0, h1, h2, h3]
theorem mapE5 {f : Operand → Value} {x0 x1 x2 x3 x4 : Operand} {v0 v1 v2 v3 v4 : Value} (h0 : f x0 = v0) (h1 : f x1 = v1) (h2 : f x2 = v2) (h3 : f x3 = v3) (h4 : f x4 = v4) : (#[x0, x1, x2, x3, x4] : Array Operand).map f = #[v0, v1, v2, v3, v4] := by simp [h0, h1, h2, h3, h4]
theorem mapE6 {f : Operand → Value} {x0 x1 x2 x3 x4 x5 : Operand} {v0 v1 v2 v3 v4 v5 : Value} (h0 : f x0 = v0) (h1 : f x1 = v1) (h2 : f x2 = v2) (h3 : f x3 = v3) (h4 : f x4 = v4) (h5 : f x5 = v5) : (#[x0, x1, x2, x3, x4, x5] : Array Operand).map f = #[v0, v1, v2, v3, v4, v5] := by simp [h0, h1, h2, h3, h4, h5]
theorem mapE7 {f : Operand → Value} {x0 x1 x2 x3 x4 x5 x6 : Operand} {v0 v1 v2 v3 v4 v5 v6 : Value} (h0 : f x0 = v0) (h1 : f x1 = v1) (h2 : f x2 = v2) (h3 : f x3 = v3) (h4 : f x4 = v4) (h5 : f x5 = v5) (h6 : f x6 = v6) : (#[x0, x1, x2, x3, x4, x5, x6] : Array Operand).map f = #[v0, v1, v2, v3, v4, v5, v6] := by simp [h0, h1, h2, h3, h4, h5, h6]
theorem mapE8 {f : Operand → Value} {x0 x1 x2 x3 x4 x5 x6 x7 : Operand} {v0 v1 v2 v3 v4 v5 v6 v7 : Value} (h0 : f x0 = v0) (h1 : f x1 = v1) (h2 : f x2 = v2) (h3 : f x3 = v3) (h4 : f x4 = v4) (h5 : f x5 = v5) (h6 : f x6 = v6) (h7 : f x7 = v7) : (#[x0, x1, x2, x3, x4, x5, x6, x7] : Array Operand).map f = #[v0, v1, v2, v3, v4, v5, v6, v7] := by simp [h0, h1, h2, h3, h4, h5, h6, h7]
theorem mapB0 {f : Operand → Value} : (#[] : Array (Nat × Operand)).map (fun (i, x) => (i, f x)) = #[] := by simp
theorem mapB1 {f : Operand → Value} {n0 : Nat} {x0 : Operand} {v0 : Value} (h0 : f x0 = v0) : (#[(n0, x0)] : Array (Nat × Operand)).map (fun (i, x) => (i, f x)) = #[(n0, v0)] := by simp [h0]
theorem mapB2 {f : Operand → Value} {n0 n1 : Nat} {x0 x1 : Operand} {v0 v1 : Value} (h0 : f x0 = v0) (h1 : f x1 = v1) : (#[(n0, x0), (n1, x1)] : Array (Nat × Operand)).map (fun (i, x) => (i, f x)) = #[(n0, v0), (n1, v1)] := by simp [h0, h1]
theorem mapB3 {f : Operand → Value} {n0 n1 n2 : Nat} {x0 x1 x2 : Operand} {v0 v1 v2 : Value} (h0 : f x0 = v0) (h1 : f x1 = v1) (h2 : f x2 = v2) : (#[(n0, x0), (n1, x1), (n2, x2)] : Array (Nat × Operand)).map (fun (i, x) => (i, f x)) = #[(n0, v0), (n1, v1), (n2, v2)] := by simp [h0, h1, h2]
theorem mapB4 {f : Operand → Value} {n0 n1 n2 n3 : Nat} {x0 x1 x2 x3 : Operand} {v0 v1 v2 v3 : Value} (h0 : f x0 = v0) (h1 : f x1 = v1) (h2 : f x2 = v2) (h3 : f x3 = v3) : (#[(n0, x0), (n1, x1), (n2, x2), (n3, x3)] : Array (Nat × Operand)).map (fun (i, x) => (i, f x)) = #[(n0, v0), (n1, v1), (n2, v2), (n3, v3)] := by simp [h0, h1, h2, h3]
theorem mapB5 {f : Operand → Value} {n0 n1 n2 n3 n4 : Nat} {x0 x1 x2 x3 x4 : Operand} {v0 v1 v2 v3 v4 : Value} (h0 : f x0 = v0) (h1 : f x1 = v1) (h2 : f x2 = v2) (h3 : f x3 = v3) (h4 : f x4 = v4) : (#[(n0, x0), (n1, x1), (n2, x2), (n3, x3), (n4, x4)] : Array (Nat × Operand)).map (fun (i, x) => (i, f x)) = #[(n0, v0), (n1, v1), (n2, v2), (n3, v3), (n4, v4)] := by simp [h0, h1, h2, h3, h4]
theorem mapB6 {f : Operand → Value} {n0 n1 n2 n3 n4 n5 : Nat} {x0 x1 x2 x3 x4 x5 : Operand} {v0 v1 v2 v3 v4 v5 : Value} (h0 : f x0 = v0) (h1 : f x1 = v1) (h2 : f x2 = v2) (h3 : f x3 = v3) (h4 : f x4 = v4) (h5 : f x5 = v5) : (#[(n0, x0), (n1, x1), (n2, x2), (n3, x3), (n4, x4), (n5, x5)] : Array (Nat × Operand)).map (fun (i, x) => (i, f x)) = #[(n0, v0), (n1, v1), (n2, v2), (n3, v3), (n4, v4), (n5, v5)] := by simp [h0, h1, h2, h3, h4, h5]
theorem mapB7 {f : Operand → Value} {n0 n1 n2 n3 n4 n5 n6 : Nat} {x0 x1 x2 x3 x4 x5 x6 : Operand} {v0 v1 v2 v3 v4 v5 v6 : Value} (h0 : f x0 = v0) (h1 : f x1 = v1) (h2 : f x2 = v2) (h3 : f x3 = v3) (h4 : f x4 = v4) (h5 : f x5 = v5) (h6 : f x6 = v6) : (#[(n0, x0), (n1, x1), (n2, x2), (n3, x3), (n4, x4), (n5, x5), (n6, x6)] : Array (Nat × Operand)).map (fun (i, x) => (i, f x)) = #[(n0, v0), (n1, v1), (n2, v2), (n3, v3), (n4, v4), (n5, v5), (n6, v6)] := by simp [h0, h1, h2, h3, h4, h5, h6]
theorem mapB8 {f : Operand → Value} {n0 n1 n2 n3 n4 n5 n6 n7 : Nat} {x0 x1 x2 x3 x4 x5 x6 x7 : Operand} {v0 v1 v2 v3 v4 v5 v6 v7 : Value} (h0 : f x0 = v0) (h1 : f x1 = v1) (h2 : f x2 = v2) (h3 : f x3 = v3) (h4 : f x4 = v4) (h5 : f x5 = v5) (h6 : f x6 = v6) (h7 : f x7 = v7) : (#[(n0, x0), (n1, x1), (n2, x2), (n3, x3), (n4, x4), (n5, x5), (n6, x6), (n7, x7)] : Array (Nat × Operand)).map (fun (i, x) => (i, f x)) = #[(n0, v0), (n1, v1), (n2, v2), (n3, v3), (n4, v4), (n5, v5), (n6, v6), (n7, v7)] := by simp [h0, h1, h2, h3, h4, h5, h6, h7]
section
variable {F : Fence} {n : Nat} {P : Program} {ops : Array Oper} {Q : Exit → Act → World → Prop} {a : Act} {W : World} {rest : List Oper} {o : Oper}
/-- Is it this operation? (Ahead of a rule, so that it fails at once where it doesn't fit.) -/
theorem onlyO (p : Op) (_ : o.op = p) (h : wpListIn F n P ops Q (o :: rest) a W) : wpListIn F n P ops Q (o :: rest) a W := h
theorem onlyD (d : Tmp) (_ : o.dst = some d) (h : wpListIn F n P ops Q (o :: rest) a W) : wpListIn F n P ops Q (o :: rest) a W := h
end
end Go.Proofs.Ytckhkagkpldoiaa
