/- Several texts in one: OwnV BinI Sto Sx. -/
import Derived.Test.YtdglhppcfdpcaaaOwX
import Derived.Laws.StructEq
import Derived.IntWalk
namespace Go.Proofs.Ytdglhppcfdpcaaa
open Go Go.RowKit

section
variable {F : Fence} {n : Nat} {P : Program} {ops : Array Oper} {Q : Exit → Act → World → Prop} {a : Act} {W W' : World} {rest : List Oper} {o : Oper} {B G : Nat} {base : World} {L : Objs}
theorem own_allocV [FreeF F] (D : Tmp) (T : TypeId) (ho : o.op = .alloc T) (_ : o.dst = some D) (hw : Region.wanted o (yielded ops a.tmps) = true) (cs : Array Value) (hr : ∀ w : World, (Instr.alloc T true (.tuple #[])).run P w = .ok (.pointer (some ⟨w.heap.size, 0, none⟩)) (w.alloc (.cells cs T)))
    (OW : Hid (Own B base L W)) (OZ : Hid (W.heap.size = G ∧ B ≤ G)) (h : ∀ (W2 : World) (G2 : Nat), Hid (Own B base (L ++ [(G, .cells cs T (0, 0))]) W2) → Hid (W2.heap.size = G2 ∧ B ≤ G2) → wpListIn F n P ops Q rest (a.put o.dst (.pointer (some ⟨G, 0, none⟩))) W2) : wpListIn F n P ops Q (o :: rest) a W :=
  own_alloc T ho hw cs hr OW OZ fun W2 h1 h2 => h W2 _ h1 h2
theorem own_boxV [FreeF F] (D : Tmp) (T : TypeId) (x : Operand) (ho : o.op = .box T x) (_ : o.dst = some D) (hw : Region.wanted o (yielded ops a.tmps) = true) (v : Value) (hx : a.eval x = v) (cs : Array Value) (hv : v.cells = cs)
    (OW : Hid (Own B base L W)) (OZ : Hid (W.heap.size = G ∧ B ≤ G)) (h : ∀ (W2 : World) (G2 : Nat), Hid (Own B base (L ++ [(G, .cells cs T (0, 0))]) W2) → Hid (W2.heap.size = G2 ∧ B ≤ G2) → wpListIn F n P ops Q rest (a.put o.dst (.pointer (some ⟨G, 0, none⟩))) W2) : wpListIn F n P ops Q (o :: rest) a W :=
  own_box T x ho hw v hx cs hv OW OZ fun W2 h1 h2 => h W2 _ h1 h2
theorem own_loadV [FreeF F] (D : Tmp) (k : Nat) (T : TypeId) (x : Operand) (ho : o.op = .load T x) (_ : o.dst = some D) (hw : Region.wanted o (yielded ops a.tmps) = true) {g i : Nat} {t : TypeId} {cs : Array Value} (hk : L[k]? = some (g, .cells cs t (0, 0))) (hx : a.eval x = .pointer (some ⟨g, i, none⟩)) (v : Value) (hv : cs[i]? = some v)
    (hna : ∀ w, (isAgg T).run P w = .ok false w) (OW : Hid (Own B base L W)) (h : wpListIn F n P ops Q rest (a.put o.dst v) W) : wpListIn F n P ops Q (o :: rest) a W :=
  own_load k T x ho hw hk hx v hv hna OW h
theorem own_loadSubV [FreeF F] (D : Tmp) (k off : Nat) (T : TypeId) (x : Operand) (ho : o.op = .load T x) (_ : o.dst = some D) (hw : Region.wanted o (yielded ops a.tmps) = true) {g : Nat} {t : TypeId} {cs : Array Value} (hk : L[k]? = some (g, .cells cs t (0, 0))) (hx : a.eval x = .pointer (some ⟨g, off, none⟩)) (l : List Value) (hl : (cs.toList.drop off).take l.length = l) {d : TypeDesc}
    (hu : P.underlying T = some d) (hd : (match d with | .struct _ | .array _ _ => true | _ => false) = true) (hi : (P.info? T).map (·.size) = some l.length) (OW : Hid (Own B base L W)) (h : wpListIn F n P ops Q rest (a.put o.dst (.agg l.toArray)) W) : wpListIn F n P ops Q (o :: rest) a W :=
  wpListIn_val hw (by unfold noDefer; rw [ho]) (.agg l.toArray) (W' := W) (by unfold execOp; simp only [ho, hx, Instr.loadAt, Instr.sureAddr, Sem.run_bind, Sem.run_pure, Result.andThen_ok, run_loadVar_sub W g off t T cs l (OW.out.get hk) hl hu hd hi]) h
theorem own_loadRowV [FreeF F] (D : Tmp) (k : Nat) (T : TypeId) (x : Operand) (ho : o.op = .load T x) (_ : o.dst = some D) (hw : Region.wanted o (yielded ops a.tmps) = true) {g : Nat} {t : TypeId} {cs : Array Value} (hk : L[k]? = some (g, .cells cs t (0, 0))) (hx : a.eval x = .pointer (some ⟨g, 0, none⟩)) (d : TypeDesc)
    (hu : P.underlying T = some d) (hd : (match d with | .struct _ | .array _ _ => true | _ => false) = true) (hi : (P.info? T).map (·.size) = some cs.size) (OW : Hid (Own B base L W)) (h : wpListIn F n P ops Q rest (a.put o.dst (.agg cs)) W) : wpListIn F n P ops Q (o :: rest) a W :=
  own_loadRow k T x ho hw hk hx d hu hd hi OW h
/-- Any operation that leaves the world alone. -/
theorem own_valV [FreeF F] (D : Tmp) (_ : o.dst = some D) (hw : Region.wanted o (yielded ops a.tmps) = true) (hnd : noDefer o = true) (v : Value) (hr : (execOp a.eval o).run P W = .ok (.value v) W) (h : wpListIn F n P ops Q rest (a.put o.dst v) W) : wpListIn F n P ops Q (o :: rest) a W :=
  wpListIn_val hw hnd v hr h
/-- A part of a block, stored. -/
theorem own_storeSub [FreeF F] (k off : Nat) (T : TypeId) (x y : Operand) (ho : o.op = .store T x y) (hw : Region.wanted o (yielded ops a.tmps) = true) {g : Nat} {t : TypeId} {cs : Array Value} (hk : L[k]? = some (g, .cells cs t (0, 0))) (hx : a.eval x = .pointer (some ⟨g, off, none⟩)) (l : List Value) (hy : a.eval y = .agg l.toArray)
    (hs : off + l.length ≤ cs.size) (h1 : l.all (·.oneCell') = true) (hsz : (P.info? T).map (·.size) = some l.length) (cs' : Array Value) (hcs : (cs.toList.take off ++ l ++ cs.toList.drop (off + l.length)).toArray = cs') (L' : Objs) (hL : L.set k (g, .cells cs' t (0, 0)) = L')
    (OW : Hid (Own B base L W)) (OZ : Hid (W.heap.size = G ∧ B ≤ G)) (h : ∀ W2 : World, Hid (Own B base L' W2) → Hid (W2.heap.size = G ∧ B ≤ G) → wpListIn F n P ops Q rest (a.put o.dst undef) W2) : wpListIn F n P ops Q (o :: rest) a W := by
  subst hL
  subst hcs
  have h2 := run_storeCells_at P g off t l 0 cs W (OW.out.get hk) (by omega) (fun v hv => (List.all_eq_true.1 h1) v hv)
  have hr : (storeVar T ⟨g, off, none⟩ (.agg l.toArray)).run P W = .ok () (W.setRow g (cs.toList.take off ++ l ++ cs.toList.drop (off + l.length)).toArray) := by
    cases hq : P.info? T with
    | none => simp [hq] at hsz
    | some inf =>
      have hs2 : inf.size = l.length := by simpa [hq] using hsz
      unfold storeVar
      simp only [sizeOf, typeInfo, Value.cells, Sem.run_bind]
      simp [hq, hs2, h2]
  refine wpListIn_skp hw (by unfold noDefer; rw [ho]) (W' := W.setRow g (cs.toList.take off ++ l ++ cs.toList.drop (off + l.length)).toArray) (by unfold execOp; simp only [ho, hx, hy, Instr.storeAt, Instr.sureAddr, Sem.run_bind, Sem.run_pure, Result.andThen_ok, hr]) ?_
  exact h _ (OW.out.setRow hk _) ⟨by simpa using OZ.out.1, OZ.out.2⟩
end
section
variable {P : Program} {w : World} {o : Oper} {ρ : Operand → Value}
theorem run_buildO {T : TypeId} {parts : Array (Nat × Operand)} (ho : o.op = .build T parts) {vs : Array (Nat × Value)} (hv : parts.map (fun (i, x) => (i, ρ x)) = vs) (cells : Array Value) (h : P.built T vs.toList = some cells) : (execOp ρ o).run P w = .ok (.value (.agg cells)) w := by
  unfold execOp
  simp only [ho, hv, Sem.run_bind, run_build (P := P) w T vs cells h, Result.andThen_ok, Sem.run_pure]
end
theorem mapE0 {f : Operand → Value} : (#[] : Array Operand).map f = #[] := by simp
theorem mapE1 {f : Operand → Value} {x0 : Operand} {v0 : Value} (h0 : f x0 = v0) : (#[x0] : Array Operand).map f = #[v0] := by simp [h0]
theorem mapE2 {f : Operand → Value} {x0 x1 : Operand} {v0 v1 : Value} (h0 : f x0 = v0) (h1 : f x1 = v1) : (#[x0, x1] : Array Operand).map f = #[v0, v1] := by simp [h0, h1]
theorem mapE3 {f : Operand → Value} {x0 x1 x2 : Operand} {v0 v1 v2 : Value} (h0 : f x0 = v0) (h1 : f x1 = v1) (h2 : f x2 = v2) : (#[x0, x1, x2] : Array Operand).map f = #[v0, v1, v2] := by simp [h0, h1, h2]
theorem mapE4 {f : Operand → Value} {x0 x1 x2 x3 : Operand} {v0 v1 v2 v3 : Value} (h0 : f x0 = v0) (h1 : f x1 = v1) (h2 : f x2 = v2) (h3 : f x3 = v3) : (#[x0, x1, x2, x3] : Array Operand).map f = #[v0, v1, v2, v3] := by simp [h0, h1, h2, h3]
theorem mapE5 {f : Operand → Value} {x0 x1 x2 x3 x4 : Operand} {v0 v1 v2 v3 v4 : Value} (h0 : f x0 = v0) (h1 : f x1 = v1) (h2 : f x2 = v2) (h3 : f x3 = v3) (h4 : f x4 = v4) : (#[x0, x1, x2, x3, x4] : Array Operand).map f = #[v0, v1, v2, v3, v4] := by simp [h0, h1, h2, h3, h4]
theorem mapE6 {f : Operand → Value} {x0 x1 x2 x3 x4 x5 : Operand} {v0 v1 v2 v3 v4 v5 : Value} (h0 : f x0 = v0) (h1 : f x1 = v1) (h2 : f x2 = v2) (h3 : f x3 = v3) (h4 : f x4 = v4) (h5 : f x5 = v5) : (#[x0, x1, x2, x3, x4, x5] : Array Operand).map f = #[v0, v1, v2, v3, v4, v5] := by simp [h0, h1, h2, h3, h4, h5]
theorem mapE7 {f : Operand → Value} {x0 x1 x2 x3 x4 x5 x6 : Operand} {v0 v1 v2 v3 v4 v5 v6 : Value} (h0 : f x0 = v0) (h1 : f x1 = v1) (h2 : f x2 = v2) (h3 : f x3 = v3) (h4 : f x4 = v4) (h5 : f x5 = v5) (h6 : f x6 = v6) : (#[x0, x1, x2, x3, x4, x5, x6] : Array Operand).map f = #[v0, v1, v2, v3, v4, v5, v6] := by simp [h0, h1, h2, h3, h4, h5, h6]
theorem mapE8 {f : Operand → Value} {x0 x1 x2 x3 x4 x5 x6 x7 : Operand} {v0 v1 v2 v3 v4 v5 v6 v7 : Value} (h0 : f x0 = v0) (h1 : f x1 = v1) (h2 : f x2 = v2) (h3 : f x3 = v3) (h4 : f x4 = v4) (h5 : f x5 = v5) (h6 : f x6 = v6) (h7 : f x7 = v7) : (#[x0, x1, x2, x3, x4, x5, x6, x7] : Array Operand).map f = #[v0, v1, v2, v3, v4, v5, v6, v7] := by simp [h0, h1, h2, h3, h4, h5, h6, h7]
theorem mapB0 {f : Operand → Value} : (#[] : Array (Nat × Operand)).map (fun (i, x) => (i, f x)) = #[] := by simp
theorem mapB1 {f : Operand → Value} {n0 : Nat} {x0 : Operand} {v0 : Value} (h0 : f x0 = v0) : (#[(n0, x0)] : Array (Nat × Operand)).map (fun (i, x) => (i, f x)) = #[(n0, v0)] := by simp [h0]
theorem mapB2 {f : Operand → Value} {n0 n1 : Nat} {x0 x1 : Operand} {v0 v1 : Value} (h0 : f x0 = v0) (h1 : f x1 = v1) : (#[(n0, x0), (n1, x1)] : Array (Nat × Operand)).map (fun (i, x) => (i, f x)) = #[(n0, v0), (n1, v1)] := by simp [h0, h1]
theorem mapB3 {f : Operand → Value} {n0 n1 n2 : Nat} {x0 x1 x2 : Operand} {v0 v1 v2 : Value} (h0 : f x0 = v0) (h1 : f x1 = v1) (h2 : f x2 = v2) : (#[(n0, x0), (n1, x1), (n2, x2)] : Array (Nat × Operand)).map (fun (i, x) => (i, f x)) = #[(n0, v0), (n1, v1), (n2, v2)] := by simp [h0, h1, h2]
theorem mapB4 {f : Operand → Value} {n0 n1 n2 n3 : Nat} {x0 x1 x2 x3 : Operand} {v0 v1 v2 v3 : Value} (h0 : f x0 = v0) (h1 : f x1 = v1) (h2 : f x2 = v2) (h3 : f x3 = v3) : (#[(n0, x0), (n1, x1), (n2, x2), (n3, x3)] : Array (Nat × Operand)).map (fun (i, x) => (i, f x)) = #[(n0, v0), (n1, v1), (n2, v2), (n3, v3)] := by simp [h0, h1, h2, h3]
theorem mapB5 {f : Operand → Value} {n0 n1 n2 n3 n4 : Nat} {x0 x1 x2 x3 x4 : Operand} {v0 v1 v2 v3 v4 : Value} (h0 : f x0 = v0) (h1 : f x1 = v1) (h2 : f x2 = v2) (h3 : f x3 = v3) (h4 : f x4 = v4) : (#[(n0, x0), (n1, x1), (n2, x2), (n3, x3), (n4, x4)] : Array (Nat × Operand)).map (fun (i, x) => (i, f x)) = #[(n0, v0), (n1, v1), (n2, v2), (n3, v3), (n4, v4)] := by simp [h0, h1, h2, h3, h4]
theorem mapB6 {f : Operand → Value} {n0 n1 n2 n3 n4 n5 : Nat} {x0 x1 x2 x3 x4 x5 : Operand} {v0 v1 v2 v3 v4 v5 : Value} (h0 : f x0 = v0) (h1 : f x1 = v1) (h2 : f x2 = v2) (h3 : f x3 = v3) (h4 : f x4 = v4) (h5 : f x5 = v5) : (#[(n0, x0), (n1, x1), (n2, x2), (n3, x3), (n4, x4), (n5, x5)] : Array (Nat × Operand)).map (fun (i, x) => (i, f x)) = #[(n0, v0), (n1, v1), (n2, v2), (n3, v3), (n4, v4), (n5, v5)] := by simp [h0, h1, h2, h3, h4, h5]
theorem mapB7 {f : Operand → Value} {n0 n1 n2 n3 n4 n5 n6 : Nat} {x0 x1 x2 x3 x4 x5 x6 : Operand} {v0 v1 v2 v3 v4 v5 v6 : Value} (h0 : f x0 = v0) (h1 : f x1 = v1) (h2 : f x2 = v2) (h3 : f x3 = v3) (h4 : f x4 = v4) (h5 : f x5 = v5) (h6 : f x6 = v6) : (#[(n0, x0), (n1, x1), (n2, x2), (n3, x3), (n4, x4), (n5, x5), (n6, x6)] : Array (Nat × Operand)).map (fun (i, x) => (i, f x)) = #[(n0, v0), (n1, v1), (n2, v2), (n3, v3), (n4, v4), (n5, v5), (n6, v6)] := by simp [h0, h1, h2, h3, h4, h5, h6]
theorem mapB8 {f : Operand → Value} {n0 n1 n2 n3 n4 n5 n6 n7 : Nat} {x0 x1 x2 x3 x4 x5 x6 x7 : Operand} {v0 v1 v2 v3 v4 v5 v6 v7 : Value} (h0 : f x0 = v0) (h1 : f x1 = v1) (h2 : f x2 = v2) (h3 : f x3 = v3) (h4 : f x4 = v4) (h5 : f x5 = v5) (h6 : f x6 = v6) (h7 : f x7 = v7) : (#[(n0, x0), (n1, x1), (n2, x2), (n3, x3), (n4, x4), (n5, x5), (n6, x6), (n7, x7)] : Array (Nat × Operand)).map (fun (i, x) => (i, f x)) = #[(n0, v0), (n1, v1), (n2, v2), (n3, v3), (n4, v4), (n5, v5), (n6, v6), (n7, v7)] := by simp [h0, h1, h2, h3, h4, h5, h6, h7]
section
variable {F : Fence} {n : Nat} {P : Program} {ops : Array Oper} {Q : Exit → Act → World → Prop} {a : Act} {W : World} {rest : List Oper} {o : Oper}
/-- Is it this operation? (Ahead of a rule, so that it fails at once where it doesn't fit.) -/
theorem onlyO (p : Op) (_ : o.op = p) (h : wpListIn F n P ops Q (o :: rest) a W) : wpListIn F n P ops Q (o :: rest) a W := h
theorem onlyD (d : Tmp) (_ : o.dst = some d) (h : wpListIn F n P ops Q (o :: rest) a W) : wpListIn F n P ops Q (o :: rest) a W := h
end
end Go.Proofs.Ytdglhppcfdpcaaa
namespace Go.Proofs.Ytdglhppcfdpcaaa
open Go Go.RowKit
section
variable {P : Program} {T : TypeId} {x y : Operand} {a b : Int} {w : World}
theorem bin_add_in (h0 : -9223372036854775808 ≤ a + b) (h1 : a + b ≤ 9223372036854775807) : (do eqGuard .add T x y (.int .i64 a) (.int .i64 b); Go.binOp .add T (.int .i64 a) (.int .i64 b) : Sem Value).run P w = .ok (.int .i64 (a + b)) w := by
  simp [eqGuard, Go.binOp, Op.intArith, IntWalk.i64_in _ (And.intro h0 h1)]
theorem bin_sub_in (h0 : -9223372036854775808 ≤ a - b) (h1 : a - b ≤ 9223372036854775807) : (do eqGuard .sub T x y (.int .i64 a) (.int .i64 b); Go.binOp .sub T (.int .i64 a) (.int .i64 b) : Sem Value).run P w = .ok (.int .i64 (a - b)) w := by
  simp [eqGuard, Go.binOp, Op.intArith, IntWalk.i64_in _ (And.intro h0 h1)]
theorem bin_mul_in (h0 : -9223372036854775808 ≤ a * b) (h1 : a * b ≤ 9223372036854775807) : (do eqGuard .mul T x y (.int .i64 a) (.int .i64 b); Go.binOp .mul T (.int .i64 a) (.int .i64 b) : Sem Value).run P w = .ok (.int .i64 (a * b)) w := by
  simp [eqGuard, Go.binOp, Op.intArith, IntWalk.i64_in _ (And.intro h0 h1)]
theorem bin_bits {op : BinOp} (h : op = .and ∨ op = .or ∨ op = .xor) : (do eqGuard op T x y (.int .i64 a) (.int .i64 b); Go.binOp op T (.int .i64 a) (.int .i64 b) : Sem Value).run P w = .ok (.int .i64 (bits op .i64 a b)) w := by
  rcases h with rfl | rfl | rfl <;> rfl
end
def intsV (l : List Int) : Array Value := (l.map fun z => Value.int .i64 z).toArray
def IntsEq (P : Program) (T : TypeId) (n : Nat) : Prop := ∀ (d : Nat) (l m : List Int) (w : World), l.length = n → m.length = n → (Op.equalIn (d + 3) T (.agg (intsV l)) (.agg (intsV m))).run P w = .ok (decide (l = m)) w
theorem eql_ints {P : Program} {T : TypeId} {n : Nat} (h : IntsEq P T n) (hg : P.eqGuardType P.depth T = false) {l m : List Int} (hl : l.length = n) (hm : m.length = n) {x y : Operand} {w : World} :
    (do eqGuard .eql T x y (.agg (intsV l)) (.agg (intsV m)); Go.binOp .eql T (.agg (intsV l)) (.agg (intsV m)) : Sem Value).run P w = .ok (.bool (decide (l = m))) w := by
  have := h 9997 l m w hl hm
  simp [eqGuard, Go.binOp, Op.equal, Op.maxDepth, Sem.run_bind, hg, this]
theorem neq_ints {P : Program} {T : TypeId} {n : Nat} (h : IntsEq P T n) (hg : P.eqGuardType P.depth T = false) {l m : List Int} (hl : l.length = n) (hm : m.length = n) {x y : Operand} {w : World} :
    (do eqGuard .neq T x y (.agg (intsV l)) (.agg (intsV m)); Go.binOp .neq T (.agg (intsV l)) (.agg (intsV m)) : Sem Value).run P w = .ok (.bool (!decide (l = m))) w := by
  have := h 9997 l m w hl hm
  simp [eqGuard, Go.binOp, Op.equal, Op.maxDepth, Sem.run_bind, hg, this]
section
variable {P : Program} {d : Nat} {xs ys : Array Value} {f : Field} {fs : List Field} {w : World} {r e : Bool} {a b : Int}
theorem eqF_nil : (Op.eqFields d xs ys []).run P w = .ok true w := rfl
theorem eqF_int (hn : f.name ≠ "_") (ht : P.underlying f.type = some (.int .i64)) (hx : xs[f.offset]? = some (.int .i64 a)) (hy : ys[f.offset]? = some (.int .i64 b)) (hr : (Op.eqFields (d + 1) xs ys fs).run P w = .ok r w) :
    (Op.eqFields (d + 1) xs ys (f :: fs)).run P w = .ok (decide (a = b) && r) w := by
  have ha : (isAgg f.type).run P w = .ok false w := by simp [isAgg, run_underlying ht, Sem.run_bind]
  by_cases h : a = b
  · subst h
    simp [Op.eqFields, hn, part, ha, hx, hy, Sem.run_bind, run_equalIn_int (P := P) w d f.type .i64 .i64 a a ht, hr]
  · simp [Op.eqFields, hn, part, ha, hx, hy, Sem.run_bind, run_equalIn_int (P := P) w d f.type .i64 .i64 a b ht, h]
theorem eqF_agg {n : Nat} {fl : Array Field} (hn : f.name ≠ "_") (ht : P.underlying f.type = some (.struct fl)) (hs : (P.info? f.type).map (·.size) = some n) (hE : (Op.equalIn d f.type (.agg (xs.extract f.offset (f.offset + n))) (.agg (ys.extract f.offset (f.offset + n)))).run P w = .ok e w)
    (hr : (Op.eqFields d xs ys fs).run P w = .ok r w) : (Op.eqFields d xs ys (f :: fs)).run P w = .ok (e && r) w := by
  have ha : (isAgg f.type).run P w = .ok true w := by simp [isAgg, run_underlying ht, Sem.run_bind]
  obtain ⟨i, hi⟩ : ∃ i, P.info? f.type = some i := by cases h : P.info? f.type <;> simp_all
  have hz : i.size = n := by simpa [hi] using hs
  cases e
  · simp [Op.eqFields, hn, part, ha, Sem.run_bind, sizeOf, typeInfo, hi, hz, hE]
  · simp [Op.eqFields, hn, part, ha, Sem.run_bind, sizeOf, typeInfo, hi, hz, hE, hr]
end
section
variable {P : Program} {w : World} {o : Oper} {ρ : Operand → Value}
theorem run_extractO {x : Operand} {i : Nat} (ho : o.op = .extract x i) {cs : Array Value} (hx : ρ x = .tuple cs) {v : Value} (hv : cs[i]? = some v) : (execOp ρ o).run P w = .ok (.value v) w := by
  unfold execOp
  simp only [ho, hx, Instr.extract, hv, Sem.run_bind, Sem.run_pure, Result.andThen_ok]
def u8I (x : Int) : UInt8 := UInt8.ofNat (x % 256).toNat
theorem u8I_toNat (x : Int) : ((u8I x).toNat : Int) = x % 256 := by
  unfold u8I
  rw [UInt8.toNat_ofNat']
  omega
theorem cvt_u8 {S T : TypeId} (hS : P.underlying S = some (.int .i64)) (hT : P.underlying T = some (.int .u8)) {x : Int} : (convert S T (.int .i64 x)).run P w = .ok (.int .u8 ((u8I x).toNat : Int)) w := by
  rw [u8I_toNat]
  simp [convert, run_underlying hS, run_underlying hT, Sem.run_bind, Conv.intToInt, IntKind.wrap, IntKind.bits, IntKind.signed]
end
theorem ieq_Place' (d : Nat) (l m : List Int) (w : World) (hl : l.length = 4) (hm : m.length = 4) : (Op.equalIn (d + 2) 32 (.agg (intsV l)) (.agg (intsV m))).run Try.prog w = .ok (decide (l = m)) w := by
  obtain ⟨a0, a1, a2, a3, rfl⟩ : ∃ a0 a1 a2 a3, l = [a0, a1, a2, a3] := by
    match l, hl with
    | [a0, a1, a2, a3], _ => exact ⟨a0, a1, a2, a3, rfl⟩
  obtain ⟨b0, b1, b2, b3, rfl⟩ : ∃ b0 b1 b2 b3, m = [b0, b1, b2, b3] := by
    match m, hm with
    | [b0, b1, b2, b3], _ => exact ⟨b0, b1, b2, b3, rfl⟩
  have hD : decide (([a0, a1, a2, a3] : List Int) = [b0, b1, b2, b3]) = (decide (a0 = b0) && (decide (a1 = b1) && (decide (a2 = b2) && (decide (a3 = b3) && true)))) := by simp [Bool.decide_and]
  rw [hD, run_equalIn_struct w (d + 1) 32 _ _ (by kernel_rfl) (by kernel_rfl)]
  simp only [Program.fieldsOf, Try.underlying32]
  exact eqF_int (by decide) Try.underlying3 rfl rfl (eqF_int (by decide) Try.underlying3 rfl rfl (eqF_int (by decide) Try.underlying3 rfl rfl (eqF_int (by decide) Try.underlying3 rfl rfl eqF_nil)))
theorem ieq_Place : IntsEq Try.prog 32 4 := fun d l m w hl hm => ieq_Place' (d + 1) l m w hl hm
theorem eql_Place {l m : List Int} (hl : l.length = 4) (hm : m.length = 4) {x y : Operand} {w : World} : (do eqGuard .eql 32 x y (.agg (intsV l)) (.agg (intsV m)); Go.binOp .eql 32 (.agg (intsV l)) (.agg (intsV m)) : Sem Value).run Try.prog w = .ok (.bool (decide (l = m))) w := eql_ints ieq_Place (by kernel_rfl) hl hm
theorem neq_Place {l m : List Int} (hl : l.length = 4) (hm : m.length = 4) {x y : Operand} {w : World} : (do eqGuard .neq 32 x y (.agg (intsV l)) (.agg (intsV m)); Go.binOp .neq 32 (.agg (intsV l)) (.agg (intsV m)) : Sem Value).run Try.prog w = .ok (.bool (!decide (l = m))) w := neq_ints ieq_Place (by kernel_rfl) hl hm
theorem ieq_P' (d : Nat) (l m : List Int) (w : World) (hl : l.length = 4) (hm : m.length = 4) : (Op.equalIn (d + 2) 35 (.agg (intsV l)) (.agg (intsV m))).run Try.prog w = .ok (decide (l = m)) w := by
  obtain ⟨a0, a1, a2, a3, rfl⟩ : ∃ a0 a1 a2 a3, l = [a0, a1, a2, a3] := by
    match l, hl with
    | [a0, a1, a2, a3], _ => exact ⟨a0, a1, a2, a3, rfl⟩
  obtain ⟨b0, b1, b2, b3, rfl⟩ : ∃ b0 b1 b2 b3, m = [b0, b1, b2, b3] := by
    match m, hm with
    | [b0, b1, b2, b3], _ => exact ⟨b0, b1, b2, b3, rfl⟩
  have hD : decide (([a0, a1, a2, a3] : List Int) = [b0, b1, b2, b3]) = (decide (a0 = b0) && (decide (a1 = b1) && (decide (a2 = b2) && (decide (a3 = b3) && true)))) := by simp [Bool.decide_and]
  rw [hD, run_equalIn_struct w (d + 1) 35 _ _ (by kernel_rfl) (by kernel_rfl)]
  simp only [Program.fieldsOf, Try.underlying35]
  exact eqF_int (by decide) Try.underlying3 rfl rfl (eqF_int (by decide) Try.underlying3 rfl rfl (eqF_int (by decide) Try.underlying3 rfl rfl (eqF_int (by decide) Try.underlying3 rfl rfl eqF_nil)))
theorem ieq_P : IntsEq Try.prog 35 4 := fun d l m w hl hm => ieq_P' (d + 1) l m w hl hm
theorem eql_P {l m : List Int} (hl : l.length = 4) (hm : m.length = 4) {x y : Operand} {w : World} : (do eqGuard .eql 35 x y (.agg (intsV l)) (.agg (intsV m)); Go.binOp .eql 35 (.agg (intsV l)) (.agg (intsV m)) : Sem Value).run Try.prog w = .ok (.bool (decide (l = m))) w := eql_ints ieq_P (by kernel_rfl) hl hm
theorem neq_P {l m : List Int} (hl : l.length = 4) (hm : m.length = 4) {x y : Operand} {w : World} : (do eqGuard .neq 35 x y (.agg (intsV l)) (.agg (intsV m)); Go.binOp .neq 35 (.agg (intsV l)) (.agg (intsV m)) : Sem Value).run Try.prog w = .ok (.bool (!decide (l = m))) w := neq_ints ieq_P (by kernel_rfl) hl hm
theorem ieq_Fault : IntsEq Try.prog 206 8 := by
  intro d l m w hl hm
  obtain ⟨a0, a1, a2, a3, a4, a5, a6, a7, rfl⟩ : ∃ a0 a1 a2 a3 a4 a5 a6 a7, l = [a0, a1, a2, a3, a4, a5, a6, a7] := by
    match l, hl with
    | [a0, a1, a2, a3, a4, a5, a6, a7], _ => exact ⟨a0, a1, a2, a3, a4, a5, a6, a7, rfl⟩
  obtain ⟨b0, b1, b2, b3, b4, b5, b6, b7, rfl⟩ : ∃ b0 b1 b2 b3 b4 b5 b6 b7, m = [b0, b1, b2, b3, b4, b5, b6, b7] := by
    match m, hm with
    | [b0, b1, b2, b3, b4, b5, b6, b7], _ => exact ⟨b0, b1, b2, b3, b4, b5, b6, b7, rfl⟩
  have hD : decide (([a0, a1, a2, a3, a4, a5, a6, a7] : List Int) = [b0, b1, b2, b3, b4, b5, b6, b7]) = (decide (a0 = b0) && (decide ([a1, a2, a3, a4] = [b1, b2, b3, b4]) && (decide (a5 = b5) && (decide (a6 = b6) && (decide (a7 = b7) && true))))) := by simp [Bool.decide_and, Bool.and_assoc]
  have hP := ieq_Place' d [a1, a2, a3, a4] [b1, b2, b3, b4] w rfl rfl
  rw [hD, run_equalIn_struct w (d + 2) 206 _ _ (by kernel_rfl) (by kernel_rfl)]
  simp only [Program.fieldsOf, Try.underlying206]
  exact eqF_int (by decide) Try.underlying3 rfl rfl (eqF_agg (n := 4) (by decide) Try.underlying32 (by kernel_rfl) hP (eqF_int (by decide) Try.underlying3 rfl rfl (eqF_int (by decide) Try.underlying3 rfl rfl (eqF_int (by decide) Try.underlying3 rfl rfl eqF_nil))))
theorem eql_Fault {l m : List Int} (hl : l.length = 8) (hm : m.length = 8) {x y : Operand} {w : World} : (do eqGuard .eql 206 x y (.agg (intsV l)) (.agg (intsV m)); Go.binOp .eql 206 (.agg (intsV l)) (.agg (intsV m)) : Sem Value).run Try.prog w = .ok (.bool (decide (l = m))) w := eql_ints ieq_Fault (by kernel_rfl) hl hm
theorem neq_Fault {l m : List Int} (hl : l.length = 8) (hm : m.length = 8) {x y : Operand} {w : World} : (do eqGuard .neq 206 x y (.agg (intsV l)) (.agg (intsV m)); Go.binOp .neq 206 (.agg (intsV l)) (.agg (intsV m)) : Sem Value).run Try.prog w = .ok (.bool (!decide (l = m))) w := neq_ints ieq_Fault (by kernel_rfl) hl hm
end Go.Proofs.Ytdglhppcfdpcaaa
namespace Go.Proofs.Ytdglhppcfdpcaaa
open Go Go.RowKit

/-- All blocks but g are kept; a cell of g is as it was, or holds what ws says. -/
structure StR (g : Nat) (ws : List (Nat × Value)) (x y : World) : Prop where
  os : y.os = x.os
  tape : y.tape = x.tape
  output : y.output = x.output
  size : x.heap.size ≤ y.heap.size
  far : ∀ b, b < x.heap.size → b ≠ g → y.heap[b]? = x.heap[b]?
  ch : ∀ t cs, x.heap[g]? = some (.cells cs t (0, 0)) → ∃ cs', y.heap[g]? = some (.cells cs' t (0, 0)) ∧ cs'.size = cs.size ∧ ∀ i : Nat, cs'[i]? = cs[i]? ∨ ∃ v, (i, v) ∈ ws ∧ cs'[i]? = some v
section
variable {g : Nat} {ws : List (Nat × Value)} {x y z w w' W W' : World} {B : Nat} {base : World} {L L' : Objs}
theorem StR.trans (x y z : World) (h : StR g ws x y) (k : StR g ws y z) : StR g ws x z :=
  ⟨k.os.trans h.os, k.tape.trans h.tape, k.output.trans h.output, Nat.le_trans h.size k.size, fun b hb hg => (k.far b (Nat.lt_of_lt_of_le hb h.size) hg).trans (h.far b hb hg),
    fun t cs hx => by
      obtain ⟨c1, h1, h2, h3⟩ := h.ch t cs hx
      obtain ⟨c2, k1, k2, k3⟩ := k.ch t c1 h1
      refine ⟨c2, k1, k2.trans h2, fun i => ?_⟩
      rcases k3 i with e | e
      · rcases h3 i with e2 | ⟨v, m, e2⟩
        · exact .inl (e.trans e2)
        · exact .inr ⟨v, m, e.trans e2⟩
      · exact .inr e⟩
theorem StR.refl (x : World) : StR g ws x x := ⟨rfl, rfl, rfl, Nat.le_refl _, fun _ _ _ => rfl, fun _ cs h => ⟨cs, h, rfl, fun _ => .inl rfl⟩⟩
theorem StR.drew (x : World) : StR g ws x x.drew := ⟨rfl, rfl, rfl, Nat.le_refl _, fun _ _ _ => rfl, fun _ cs h => ⟨cs, h, rfl, fun _ => .inl rfl⟩⟩
theorem StR.below (h : Below x.heap.size x y) : StR g ws x y :=
  have hs := fun b (hb : b < x.heap.size) => h.block b hb
  ⟨h.os, h.tape, h.output, h.size, fun b hb _ => hs b hb, fun _ cs hx => ⟨cs, (hs g (Array.getElem?_eq_some_iff.1 hx).1).trans hx, rfl, fun _ => .inl rfl⟩⟩
/-- A cell that stands as it was told. -/
def CellIs (g i : Nat) (v : Value) (w : World) : Prop := ∃ t cs, w.heap[g]? = some (.cells cs t (0, 0)) ∧ cs[i]? = some v
theorem StR.keeps {i : Nat} {v : Value} (hu : ∀ u, (i, u) ∈ ws → u = v) (h : CellIs g i v x) (k : StR g ws x y) : CellIs g i v y := by
  obtain ⟨t, cs, h1, h2⟩ := h
  obtain ⟨c1, k1, _, k3⟩ := k.ch t cs h1
  rcases k3 i with e | ⟨u, m, e⟩
  · exact ⟨t, c1, k1, e.trans h2⟩
  · exact ⟨t, c1, k1, by rw [← hu u m]; exact e⟩
theorem StR.cell {k i : Nat} {t : TypeId} {cs : Array Value} {v : Value} (OW : Own B base L w) (hk : L[k]? = some (g, .cells cs t (0, 0))) (hv : cs[i]? = some v) (hu : ∀ u, (i, u) ∈ ws → u = v) (h : StR g ws w w') : w'.cell? ⟨g, i, none⟩ = some v := by
  obtain ⟨t2, c2, h1, h2⟩ := h.keeps hu ⟨t, cs, OW.get hk, hv⟩
  rw [cell_of_row w' g i c2 t2 (0, 0) h1]
  exact h2
theorem StR.get {k : Nat} {o : Nat × Obj} (OW : Own B base L w) (hk : L[k]? = some o) (hne : o.1 ≠ g) (h : StR g ws w w') : w'.heap[o.1]? = some o.2 :=
  (h.far _ (OW.lt (List.mem_of_getElem? hk)) hne).trans (OW.get hk)
theorem Own.apart (OW : Own B base L w) {j k : Nat} {x y : Nat × Obj} (hj : L[j]? = some x) (hk : L[k]? = some y) (hne : j ≠ k) : x.1 ≠ y.1 := by
  obtain ⟨h1, rfl⟩ := List.getElem?_eq_some_iff.1 hj
  obtain ⟨h2, rfl⟩ := List.getElem?_eq_some_iff.1 hk
  have hp := List.pairwise_iff_getElem.1 OW.nd
  rcases Nat.lt_or_gt_of_ne hne with h | h
  · exact hp j k h1 h2 h
  · exact Ne.symm (hp k j h2 h1 h)
/-- One object is another one now; new blocks may have come. -/
theorem Own.putG (h : Own B base L W) {k g : Nat} {o o' : Obj} (hk : L[k]? = some (g, o)) (hos : W'.os = W.os) (htp : W'.tape = W.tape) (hout : W'.output = W.output) (hsz : W.heap.size ≤ W'.heap.size)
    (hg : W'.heap[g]? = some o') (hf : ∀ b, b < W.heap.size → b ≠ g → W'.heap[b]? = W.heap[b]?) : Own B base (L.set k (g, o')) W' := by
  have hkl : k < L.length := (List.getElem?_eq_some_iff.1 hk).1
  have hke : L[k] = (g, o) := (List.getElem?_eq_some_iff.1 hk).2
  have hne : ∀ j (hj : j < L.length), j ≠ k → L[j].1 ≠ g := fun j hj hjk => by
    have hp := List.pairwise_iff_getElem.1 h.nd
    rcases Nat.lt_or_gt_of_ne hjk with h1 | h1
    · have := hp j k hj hkl h1; rwa [hke] at this
    · have := hp k j hkl hj h1; rw [hke] at this; exact Ne.symm this
  have hmem : ∀ x ∈ L.set k (g, o'), x = (g, o') ∨ (x ∈ L ∧ x.1 ≠ g) := fun x hx => by
    obtain ⟨j, hj, rfl⟩ := List.getElem_of_mem hx
    rw [List.length_set] at hj
    rw [List.getElem_set]
    split
    · exact .inl rfl
    · rename_i e
      exact .inr ⟨List.getElem_mem hj, hne j hj (Ne.symm e)⟩
  refine ⟨?_, ?_, ?_, hos.trans h.os, htp.trans h.tape, hout.trans h.output, Nat.le_trans h.size hsz, ?_⟩
  · intro x hx
    rcases hmem x hx with rfl | ⟨h1, h2⟩
    · exact hg
    · exact (hf _ (h.lt h1) h2).trans (h.obj x h1)
  · rw [List.pairwise_iff_getElem]
    intro i j hi hj hij
    have hp := List.pairwise_iff_getElem.1 h.nd
    rw [List.length_set] at hi hj
    have e : ∀ m (hm : m < (L.set k (g, o')).length), ((L.set k (g, o'))[m]).1 = (L[m]'(by rw [List.length_set] at hm; exact hm)).1 := fun m hm => by
      rw [List.getElem_set]
      split
      · rename_i e; subst e; rw [hke]
      · rfl
    rw [e, e]
    exact hp i j hi hj hij
  · intro x hx
    rcases hmem x hx with rfl | ⟨h1, _⟩
    · exact h.lo (g, o) (List.mem_of_getElem? hk)
    · exact h.lo x h1
  · intro b hb hn
    have hbg : b ≠ g := fun e => by
      subst e
      exact hn (b, o') (List.mem_of_getElem? (by rw [List.getElem?_set_self hkl])) rfl
    rw [hf b (Nat.lt_of_lt_of_le hb h.size) hbg]
    refine h.far b hb fun x hx e => ?_
    obtain ⟨j, hj, rfl⟩ := List.getElem_of_mem hx
    by_cases hjk : j = k
    · subst hjk; rw [hke] at e; exact hbg e.symm
    · refine hn L[j] (List.mem_of_getElem? (i := j) ?_) e
      rw [List.getElem?_set_ne (Ne.symm hjk), List.getElem?_eq_getElem hj]
/-- Behind the region: each cell of ws holds what it says. -/
theorem Own.stored {k : Nat} {t : TypeId} {cs : Array Value} (OW : Own B base L w) (hk : L[k]? = some (g, .cells cs t (0, 0))) (h : StR g ws w w') (hv : ∀ p ∈ ws, CellIs g p.1 p.2 w') (cs2 : Array Value) (hs : cs2.size = cs.size)
    (hc : ∀ i, i < cs.size → (∃ v, (i, v) ∈ ws ∧ cs2[i]? = some v) ∨ ((∀ v, (i, v) ∉ ws) ∧ cs2[i]? = cs[i]?)) : Own B base (L.set k (g, .cells cs2 t (0, 0))) w' := by
  obtain ⟨c1, k1, k2, k3⟩ := h.ch t cs (OW.get hk)
  have e : c1 = cs2 := by
    refine Array.ext_getElem? fun i => ?_
    by_cases hi : i < cs.size
    · rcases hc i hi with ⟨v, hm, h2⟩ | ⟨hn, h2⟩
      · obtain ⟨t3, c3, h3, h4⟩ := hv _ hm
        have h5 := k1.symm.trans h3
        simp only [Option.some.injEq, Obj.cells.injEq] at h5
        rw [h2, ← h4, h5.1]
      · rcases k3 i with e | ⟨v, hm, _⟩
        · rw [h2, e]
        · exact absurd hm (hn v)
    · rw [Array.getElem?_eq_none (by omega), Array.getElem?_eq_none (by omega)]
  subst e
  exact OW.putG hk h.os h.tape h.output h.size k1 h.far
end

section
variable {F : Fence} {n : Nat} {P : Program} {L : List Oper} {N : Nat} {Q : Exit → Act → World → Prop} {V : Nat → Value → World → Prop} {D : Nat → List Nat} {a : Act} {w : World} {k : Nat} {o : Oper} {g : Nat} {ws : List (Nat × Value)}
/-- A cell is stored. -/
theorem held_store (hF : Fence.free F) (hg : o.guard = none) (T : TypeId) (x y : Operand) (ho : o.op = .store T x y) (i : Nat) (v : Value) (h1 : v.oneCell' = true) (hsz : (P.info? T).map (·.size) = some 1) (hm : (i, v) ∈ ws) (hV : ∀ w', CellIs g i v w' → V k undef w')
    (h : ∀ (xs : Nat → Value) (w' : World), (∀ j ∈ D k, V j (xs j) w') → StR g ws w w' → (putsH xs (L.take N) 0 a).eval x = .pointer (some ⟨g, i, none⟩) ∧ (putsH xs (L.take N) 0 a).eval y = v ∧ ∃ t cs, w.heap[g]? = some (.cells cs t (0, 0)) ∧ i < cs.size) : HeldOp F n P L N Q V (StR g ws) D a w k o := by
  refine ⟨?_⟩
  intro xs w' hk hR K hK
  rw [if_pos (by simp [Region.wanted, hg])]
  obtain ⟨hx, hy, t, cs, hb0, hi⟩ := h xs w' hk hR
  obtain ⟨c1, hb, hs1, _⟩ := hR.ch t cs hb0
  have hi1 : i < c1.size := by omega
  have hr : (storeVar T ⟨g, i, none⟩ v).run P w' = .ok () (w'.setCell ⟨g, i, none⟩ v) := by
    cases hq : P.info? T with
    | none => simp [hq] at hsz
    | some inf =>
      have hs : inf.size = 1 := by simpa [hq] using hsz
      have hc : v.cells = #[v] := by cases v <;> first | rfl | simp [Value.oneCell'] at h1
      have hst : (store ⟨g, i, none⟩ v).run P w' = .ok () (w'.setCell ⟨g, i, none⟩ v) := by
        rw [run_store P w' ⟨g, i, none⟩ v .plain h1]
        have hcell : w'.cell? ⟨g, i, none⟩ = some c1[i] := by rw [cell_of_row w' g i c1 t (0, 0) hb]; exact Array.getElem?_eq_getElem hi1
        have hfz : w'.frozen? ⟨g, i, none⟩ = false := Blk.frozen (t := t) (cs := c1) hb i
        simp [hcell, hfz]
      unfold storeVar
      simp only [sizeOf, typeInfo, hc, Sem.run_bind]
      simp [hq, hs, storeCells, Addr.add, Sem.run_bind, hst]
  unfold Oper.wpIn
  refine ⟨fun f _ => hF.2 f, ?_⟩
  have hr2 : (execOp (putsH xs (L.take N) 0 a).eval o).run P w' = .ok .skip (w'.setCell ⟨g, i, none⟩ v) := by
    unfold execOp
    simp only [ho, hx, hy, Instr.storeAt, Instr.sureAddr, Sem.run_bind, Sem.run_pure, Result.andThen_ok, hr]
  rw [Oper.semAt_plain F _ o (fun c hc => by rw [ho] at hc; cases hc), hr2]
  have hg2 := heap_setCell_same w' g i c1 t v hb
  refine ⟨undef, rfl, hK _ _ (hV _ ⟨t, _, hg2, by rw [Array.getElem?_setIfInBounds_self_of_lt hi1]⟩) ⟨rfl, rfl, rfl, by simp [World.setCell], fun b _ hbg => heap_setCell_other w' ⟨g, i, none⟩ b v hbg, fun t2 c2 h2 => ?_⟩⟩
  have h5 := hb.symm.trans h2
  simp only [Option.some.injEq, Obj.cells.injEq] at h5
  obtain ⟨rfl, rfl, _⟩ := h5
  refine ⟨_, hg2, by simp, fun j => ?_⟩
  by_cases e : i = j
  · subst e; exact .inr ⟨v, hm, by rw [Array.getElem?_setIfInBounds_self_of_lt hi1]⟩
  · exact .inl (by rw [Array.getElem?_setIfInBounds_ne e])
end
end Go.Proofs.Ytdglhppcfdpcaaa
namespace Go.Proofs.Ytdglhppcfdpcaaa
open Go Go.RowKit
section
variable {xs : Nat → Value} {l : List Oper} {a : Act} {t : Nat} {v : Value}
theorem pT (i : Nat) (h : whoPuts t l 0 = some i) (ht : Nat.blt t a.tmps.size = true) (hv : xs i = v) : (putsH xs l 0 a).eval (.tmp t) = v := (putsH_tmp h ht).trans hv
theorem pO (h : whoPuts t l 0 = none) (hv : a.eval (.tmp t) = v) : (putsH xs l 0 a).eval (.tmp t) = v := (putsH_old h).trans hv
theorem cdAt {l : List (Value → World → Prop)} {i : Nat} {v : Value} {w : World} {C : Prop} {p : Value → World → Prop} (h : atV l i v w) (he : l[i]? = some (cdV C p)) (hc : C) : p v w := by
  unfold atV at h
  rw [he] at h
  exact cdV.get h hc
variable {P : Program} {W w' : World} {B : Nat} {base : World} {L : Objs} {g off : Nat} {T ty : TypeId} {cs : Array Value}
/-- Loads of own blocks, at a world that a region has reached. -/
theorem ldC (OW : Hid (Own B base L W)) (hR : BelowR W w') (k : Nat) (hk : L[k]? = some (g, .cells cs T (0, 0))) (hv : cs[off]? = some v) (hna : ∀ w, (isAgg ty).run P w = .ok false w) : (loadVar ty ⟨g, off, none⟩).run P w' = .ok v w' :=
  run_loadVar_cell (hna w') ((((OW.out.step hR).blk hk).cell off).trans hv)
theorem ldS (OW : Hid (Own B base L W)) (hR : BelowR W w') (k : Nat) (hk : L[k]? = some (g, .cells cs T (0, 0))) (n : Nat) {l : List Value} (hl : (cs.toList.drop off).take n = l) {d : TypeDesc} (hu : P.underlying ty = some d) (hd : (match d with | .struct _ | .array _ _ => true | _ => false) = true)
    (hn : l.length = n) (hi : (P.info? ty).map (·.size) = some n) : (loadVar ty ⟨g, off, none⟩).run P w' = .ok (.agg l.toArray) w' := by
  subst hn
  exact run_loadVar_sub w' g off T ty cs l ((OW.out.step hR).get hk) hl hu hd hi
theorem ldR (OW : Hid (Own B base L W)) (hR : BelowR W w') (k : Nat) (hk : L[k]? = some (g, .cells cs T (0, 0))) {d : TypeDesc} (hu : P.underlying ty = some d) (hd : (match d with | .struct _ | .array _ _ => true | _ => false) = true) (hi : (P.info? ty).map (·.size) = some cs.size) : (loadVar ty ⟨g, 0, none⟩).run P w' = .ok (.agg cs) w' :=
  run_loadVar_row w' g T ty cs (0, 0) d ((OW.out.step hR).get hk) hu hd hi
end
end Go.Proofs.Ytdglhppcfdpcaaa
