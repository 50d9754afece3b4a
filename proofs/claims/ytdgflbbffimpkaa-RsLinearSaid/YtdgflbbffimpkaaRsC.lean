/- rs.Code's checks: a walk. -/
import Derived.Test.YtdgflbbffimpkaaRsN
import Derived.Test.YtdgflbbffimpkaaArrO
import Derived.Laws.CopyRow
import Derived.Laws.IdiomCopy
import Derived.Laws.StructEq
import Derived.ChangeKeysEq
import Derived.Test.YtdgflbbffimpkaaBinI
import Derived.Test.YtdgflbbffimpkaaSx
namespace Go.Proofs.Ytdgflbbffimpkaa
open Go.RowKit Go.Shelf
set_option linter.unusedVariables false
attribute [local go_sem] Oper.semAt_some

theorem RdB.raw {w : World} {g : Nat} {t : TypeId} {xs : List UInt8} (h : Blk w g t (rawV xs)) : RdB w (some ⟨g, 0, none⟩) xs := RdB.ofBlk h fun k hk => rawV_get xs hk
theorem rawV_row (xs : List UInt8) : rawV xs = rowV xs [] := by unfold rawV rowV; rw [List.append_nil]
section
variable {F : Fence} {n : Nat} {P : Program} {L : List Oper} {N : Nat} {Q : Exit → Act → World → Prop} {V : Nat → Value → World → Prop} {R : World → World → Prop} {D : Nat → List Nat} {a : Act} {w : World} {k : Nat} {o : Oper}
/-- An operation that makes memory. -/
theorem held_valW (hF : Fence.free F) (hg : o.guard = none) (hnd : noDefer o = true)
    (h : ∀ (xs : Nat → Value) (w' : World), (∀ j ∈ D k, V j (xs j) w') → R w w' → ∃ v w2, (execOp (putsH xs (L.take N) 0 a).eval o).run P w' = .ok (.value v) w2 ∧ V k v w2 ∧ R w' w2) : HeldOp F n P L N Q V R D a w k o := by
  refine ⟨?_⟩
  intro xs w' hk hR K hK
  rw [if_pos (by simp [Region.wanted, hg])]
  obtain ⟨v, w2, h1, h2, h3⟩ := h xs w' hk hR
  unfold Oper.wpIn
  refine ⟨fun f _ => hF.2 f, ?_⟩
  rw [Oper.semAt_plain F _ o (noDefer_spec hnd), h1]
  exact ⟨v, rfl, hK _ _ h2 h3⟩
end
section
variable {P : Program} {w w2 : World} {o : Oper} {ρ : Operand → Value}
theorem run_nilO {x : Operand} (ho : o.op = .nilCheck x) {p : Addr} (hx : ρ x = .pointer (some p)) : (execOp ρ o).run P w = .ok (.value (.pointer (some p))) w := by
  unfold execOp
  simp only [ho, hx, Sem.run_pure]
theorem run_appO {T : TypeId} {s x : Operand} (ho : o.op = .call { callee := .builtin .append, args := #[s, x], argTypes := #[T, T] }) {v u v' : Value} (hs : ρ s = v) (hx : ρ x = u) (hr : ∀ ty, (Builtin.append_ #[T, T] ty #[v, u]).run P w = .ok v' w2) : (execOp ρ o).run P w = .ok (.value v') w2 := by
  simp [execOp, ho, resolve, invoke, builtin, hs, hx, hr, Result.andThen]
theorem run_makeO {T : TypeId} {x : Operand} (ho : o.op = .makeSlice T x x) {v v' : Value} (hx : ρ x = v) (hr : (Instr.makeSlice T v v).run P w = .ok v' w2) : (execOp ρ o).run P w = .ok (.value v') w2 := by
  unfold execOp
  simp only [ho, hx, Sem.run_bind, hr, Result.andThen_ok, Sem.run_pure]
theorem run_ldO {T : TypeId} {x : Operand} (ho : o.op = .load T x) {p : Addr} (hx : ρ x = .pointer (some p)) {v : Value} (hr : (loadVar T p).run P w = .ok v w) : (execOp ρ o).run P w = .ok (.value v) w := by
  unfold execOp
  simp only [ho, hx, Instr.loadAt, Instr.sureAddr, Sem.run_bind, Sem.run_pure, Result.andThen_ok, hr]
theorem bin_xor8 {T : TypeId} {x y : Operand} {a b : UInt8} : (do eqGuard .xor T x y (.int .u8 (a.toNat : Int)) (.int .u8 (b.toNat : Int)); Go.binOp .xor T (.int .u8 (a.toNat : Int)) (.int .u8 (b.toNat : Int)) : Sem Value).run P w = .ok (.int .u8 ((a ^^^ b).toNat : Int)) w := by
  rw [← u8_xorP]; rfl
theorem run_extO {x : Operand} {i : Nat} (ho : o.op = .extract x i) {vs : Array Value} (hx : ρ x = .tuple vs) {v : Value} (hv : vs[i]? = some v) : (execOp ρ o).run P w = .ok (.value v) w := by
  unfold execOp
  simp only [ho, hx, Sem.run_bind]
  simp [Instr.extract, hv, Sem.run_pure]
end
theorem results_two {P : Program} {fn : Func} {tmps : Array Value} {W : World} {p q : Tmp} {ty ty2 : TypeId} {a b : Addr} {v1 v2 : Value} (h : fn.results = #[.cell p ty, .cell q ty2]) (hp : tmps.getD p undef = .pointer (some a)) (hq : tmps.getD q undef = .pointer (some b))
    (r1 : (loadVar ty a).run P W = .ok v1 W) (r2 : (loadVar ty2 b).run P W = .ok v2 W) : (results fn tmps).run P W = .ok (.tuple #[v1, v2]) W := by
  have hp' : tmps[p]?.getD undef = .pointer (some a) := by simpa using hp
  have hq' : tmps[q]?.getD undef = .pointer (some b) := by simpa using hq
  simp [results, h, hp', hq', asAddr, r1, r2, Sem.run_bind]
theorem addr_addZ (g m : Nat) : (⟨g, 0, none⟩ : Addr).add m = ⟨g, m, none⟩ := by unfold Addr.add; split <;> simp_all
theorem eqIt_any (xs ys : List UInt8) (N : Nat) (hl : xs.length = N) (hm : ys.length = N) (w : World) : ∀ is : List Nat, (∀ i ∈ is, i < N) →
    (Op.eqItems 9999 5 1 (rawV xs) (rawV ys) is).run Try.prog w = .ok (is.all fun i => xs.getD i 0 == ys.getD i 0) w
  | [], _ => by simp [Op.eqItems]
  | i :: is, h => by
    have hi := h i (List.mem_cons_self ..)
    have ih := eqIt_any xs ys N hl hm w is fun j hj => h j (List.mem_cons_of_mem _ hj)
    have ha : ∀ w, (isAgg 5).run Try.prog w = .ok false w := fun w => by kernel_rfl
    have h1 := rawV_get xs (i := i) (by omega)
    have h2 := rawV_get ys (i := i) (by omega)
    have he : ∀ w, (Op.equalIn 9999 5 (.int .u8 ((xs.getD i 0).toNat : Int)) (.int .u8 ((ys.getD i 0).toNat : Int))).run Try.prog w = .ok (((xs.getD i 0).toNat : Int) == ((ys.getD i 0).toNat : Int)) w := fun w => run_equalIn_int w 9998 5 .u8 .u8 _ _ Try.underlying5
    have hb : (((xs.getD i 0).toNat : Int) == ((ys.getD i 0).toNat : Int)) = (xs.getD i 0 == ys.getD i 0) := by
      rw [Bool.eq_iff_iff, beq_iff_eq, beq_iff_eq, ← UInt8.toNat_inj]
      exact Int.natCast_inj
    simp only [Op.eqItems, Sem.run_bind, part, ha, Result.andThen_ok, Nat.mul_one, h1, h2, Bool.false_eq_true, if_false, Sem.run_pure, he, hb, List.all_cons]
    cases xs.getD i 0 == ys.getD i 0
    · simp
    · simpa using ih
theorem all_eqN (xs ys : List UInt8) (N : Nat) (hl : xs.length = N) (hm : ys.length = N) : ((List.range N).all fun i => xs.getD i 0 == ys.getD i 0) = decide (xs = ys) := by
  rw [Bool.eq_iff_iff, List.all_eq_true, decide_eq_true_eq]
  constructor
  · intro h
    refine List.ext_getElem (by rw [hl, hm]) fun i h1 h2 => ?_
    have h3 := h i (List.mem_range.2 (by omega))
    rw [beq_iff_eq, List.getD_eq_getElem?_getD, List.getD_eq_getElem?_getD, List.getElem?_eq_getElem h1, List.getElem?_eq_getElem h2] at h3
    simpa using h3
  · rintro rfl i _
    exact beq_self_eq_true _
theorem arL3 : Try.prog.arrayLen 24 = 3 := by kernel_rfl
theorem arZ3 (W : World) : (sizeOf (Try.prog.elem 24)).run Try.prog W = .ok 1 W := by kernel_rfl
theorem arS3 (g : Nat) (W : World) : (Instr.sliceAt 24 (.pointer (some ⟨g, 0, none⟩)) none none none).run Try.prog W = .ok (.slice (some ⟨g, 0, none⟩) 3 3) W := by
  rw [run_sliceAt_array_all (P := Try.prog) (w := W) (t := 24) (a := ⟨g, 0, none⟩) (by kernel_rfl), arZ3, Result.andThen_ok]
  unfold slicedAt
  rw [arL3, Nat.zero_mul, addr_addZ, if_neg (by omega)]
theorem arX3 (g k : Nat) (hk : k < 3) (W : World) : (Instr.indexAt 24 (.pointer (some ⟨g, 0, none⟩)) (.int .i64 (k : Int))).run Try.prog W = .ok (.pointer (some ⟨g, k, none⟩)) W := by
  rw [run_indexAt_array (P := Try.prog) (w := W) 24 ⟨g, 0, none⟩ .i64 (k : Int) (by kernel_rfl), arL3, if_pos (by omega), arZ3, Result.andThen_ok, Int.toNat_natCast, Nat.mul_one, addr_addZ]
theorem arI3 : (Try.prog.info? 24).map (·.size) = some 3 := by kernel_rfl
theorem al3 : ∀ w : World, (Instr.alloc 24 true (.tuple #[])).run Try.prog w = .ok (.pointer (some ⟨w.heap.size, 0, none⟩)) (w.alloc (.cells (rawV (List.replicate 3 0)) 24)) := fun _ => by kernel_rfl
theorem eqIt3 (xs ys : List UInt8) (hl : xs.length = 3) (hm : ys.length = 3) (w : World) : ∀ is : List Nat, (∀ i ∈ is, i < 3) →
    (Op.eqItems 9999 5 1 (rawV xs) (rawV ys) is).run Try.prog w = .ok (is.all fun i => xs.getD i 0 == ys.getD i 0) w := eqIt_any xs ys 3 hl hm w
theorem eqR3 (xs ys : List UInt8) (hl : xs.length = 3) (hm : ys.length = 3) (w : World) : (Op.equalIn 10000 24 (.agg (rawV xs)) (.agg (rawV ys))).run Try.prog w = .ok (decide (xs = ys)) w := by
  obtain ⟨i, hi⟩ : ∃ i, Try.prog.info? 5 = some i := Option.isSome_iff_exists.1 (by kernel_rfl)
  rw [run_equalIn_array w 9999 (rawV xs) (rawV ys) Try.underlying24 hi, show Try.prog.cellsOf 5 = 1 by kernel_rfl, eqIt3 xs ys hl hm w _ fun i hi => List.mem_range.1 hi, all_eqN xs ys 3 hl hm]
theorem eq_ar3 (xs ys : List UInt8) (hl : xs.length = 3) (hm : ys.length = 3) (x y : Operand) (w : World) : (do eqGuard .eql 24 x y (.agg (rawV xs)) (.agg (rawV ys)); Go.binOp .eql 24 (.agg (rawV xs)) (.agg (rawV ys)) : Sem Value).run Try.prog w = .ok (.bool (decide (xs = ys))) w := by
  have h := eqR3 xs ys hl hm w
  have g : Try.prog.eqGuardType Try.prog.depth 24 = false := by kernel_rfl
  simp [eqGuard, Go.binOp, Op.equal, Op.maxDepth, Sem.run_bind, g, h]
theorem neq_ar3 (xs ys : List UInt8) (hl : xs.length = 3) (hm : ys.length = 3) (x y : Operand) (w : World) : (do eqGuard .neq 24 x y (.agg (rawV xs)) (.agg (rawV ys)); Go.binOp .neq 24 (.agg (rawV xs)) (.agg (rawV ys)) : Sem Value).run Try.prog w = .ok (.bool (!decide (xs = ys))) w := by
  have h := eqR3 xs ys hl hm w
  have g : Try.prog.eqGuardType Try.prog.depth 24 = false := by kernel_rfl
  simp [eqGuard, Go.binOp, Op.equal, Op.maxDepth, Sem.run_bind, g, h]
theorem arJ3 {xs : List UInt8} (h : xs.length = 3) : (Try.prog.info? 24).map (·.size) = some (rawV xs).size := by rw [rawV_size, h]; exact arI3
theorem arL4 : Try.prog.arrayLen 22 = 4 := by kernel_rfl
theorem arZ4 (W : World) : (sizeOf (Try.prog.elem 22)).run Try.prog W = .ok 1 W := by kernel_rfl
theorem arS4 (g : Nat) (W : World) : (Instr.sliceAt 22 (.pointer (some ⟨g, 0, none⟩)) none none none).run Try.prog W = .ok (.slice (some ⟨g, 0, none⟩) 4 4) W := by
  rw [run_sliceAt_array_all (P := Try.prog) (w := W) (t := 22) (a := ⟨g, 0, none⟩) (by kernel_rfl), arZ4, Result.andThen_ok]
  unfold slicedAt
  rw [arL4, Nat.zero_mul, addr_addZ, if_neg (by omega)]
theorem arX4 (g k : Nat) (hk : k < 4) (W : World) : (Instr.indexAt 22 (.pointer (some ⟨g, 0, none⟩)) (.int .i64 (k : Int))).run Try.prog W = .ok (.pointer (some ⟨g, k, none⟩)) W := by
  rw [run_indexAt_array (P := Try.prog) (w := W) 22 ⟨g, 0, none⟩ .i64 (k : Int) (by kernel_rfl), arL4, if_pos (by omega), arZ4, Result.andThen_ok, Int.toNat_natCast, Nat.mul_one, addr_addZ]
theorem arI4 : (Try.prog.info? 22).map (·.size) = some 4 := by kernel_rfl
theorem al4 : ∀ w : World, (Instr.alloc 22 true (.tuple #[])).run Try.prog w = .ok (.pointer (some ⟨w.heap.size, 0, none⟩)) (w.alloc (.cells (rawV (List.replicate 4 0)) 22)) := fun _ => by kernel_rfl
theorem eqIt4 (xs ys : List UInt8) (hl : xs.length = 4) (hm : ys.length = 4) (w : World) : ∀ is : List Nat, (∀ i ∈ is, i < 4) →
    (Op.eqItems 9999 5 1 (rawV xs) (rawV ys) is).run Try.prog w = .ok (is.all fun i => xs.getD i 0 == ys.getD i 0) w := eqIt_any xs ys 4 hl hm w
theorem eqR4 (xs ys : List UInt8) (hl : xs.length = 4) (hm : ys.length = 4) (w : World) : (Op.equalIn 10000 22 (.agg (rawV xs)) (.agg (rawV ys))).run Try.prog w = .ok (decide (xs = ys)) w := by
  obtain ⟨i, hi⟩ : ∃ i, Try.prog.info? 5 = some i := Option.isSome_iff_exists.1 (by kernel_rfl)
  rw [run_equalIn_array w 9999 (rawV xs) (rawV ys) Try.underlying22 hi, show Try.prog.cellsOf 5 = 1 by kernel_rfl, eqIt4 xs ys hl hm w _ fun i hi => List.mem_range.1 hi, all_eqN xs ys 4 hl hm]
theorem eq_ar4 (xs ys : List UInt8) (hl : xs.length = 4) (hm : ys.length = 4) (x y : Operand) (w : World) : (do eqGuard .eql 22 x y (.agg (rawV xs)) (.agg (rawV ys)); Go.binOp .eql 22 (.agg (rawV xs)) (.agg (rawV ys)) : Sem Value).run Try.prog w = .ok (.bool (decide (xs = ys))) w := by
  have h := eqR4 xs ys hl hm w
  have g : Try.prog.eqGuardType Try.prog.depth 22 = false := by kernel_rfl
  simp [eqGuard, Go.binOp, Op.equal, Op.maxDepth, Sem.run_bind, g, h]
theorem neq_ar4 (xs ys : List UInt8) (hl : xs.length = 4) (hm : ys.length = 4) (x y : Operand) (w : World) : (do eqGuard .neq 22 x y (.agg (rawV xs)) (.agg (rawV ys)); Go.binOp .neq 22 (.agg (rawV xs)) (.agg (rawV ys)) : Sem Value).run Try.prog w = .ok (.bool (!decide (xs = ys))) w := by
  have h := eqR4 xs ys hl hm w
  have g : Try.prog.eqGuardType Try.prog.depth 22 = false := by kernel_rfl
  simp [eqGuard, Go.binOp, Op.equal, Op.maxDepth, Sem.run_bind, g, h]
theorem arJ4 {xs : List UInt8} (h : xs.length = 4) : (Try.prog.info? 22).map (·.size) = some (rawV xs).size := by rw [rawV_size, h]; exact arI4
theorem arL32 : Try.prog.arrayLen 32 = 32 := by kernel_rfl
theorem arZ32 (W : World) : (sizeOf (Try.prog.elem 32)).run Try.prog W = .ok 1 W := by kernel_rfl
theorem arS32 (g : Nat) (W : World) : (Instr.sliceAt 32 (.pointer (some ⟨g, 0, none⟩)) none none none).run Try.prog W = .ok (.slice (some ⟨g, 0, none⟩) 32 32) W := by
  rw [run_sliceAt_array_all (P := Try.prog) (w := W) (t := 32) (a := ⟨g, 0, none⟩) (by kernel_rfl), arZ32, Result.andThen_ok]
  unfold slicedAt
  rw [arL32, Nat.zero_mul, addr_addZ, if_neg (by omega)]
theorem arX32 (g k : Nat) (hk : k < 32) (W : World) : (Instr.indexAt 32 (.pointer (some ⟨g, 0, none⟩)) (.int .i64 (k : Int))).run Try.prog W = .ok (.pointer (some ⟨g, k, none⟩)) W := by
  rw [run_indexAt_array (P := Try.prog) (w := W) 32 ⟨g, 0, none⟩ .i64 (k : Int) (by kernel_rfl), arL32, if_pos (by omega), arZ32, Result.andThen_ok, Int.toNat_natCast, Nat.mul_one, addr_addZ]
theorem arI32 : (Try.prog.info? 32).map (·.size) = some 32 := by kernel_rfl
theorem al32 : ∀ w : World, (Instr.alloc 32 true (.tuple #[])).run Try.prog w = .ok (.pointer (some ⟨w.heap.size, 0, none⟩)) (w.alloc (.cells (rawV (List.replicate 32 0)) 32)) := fun _ => by kernel_rfl
theorem eqIt32 (xs ys : List UInt8) (hl : xs.length = 32) (hm : ys.length = 32) (w : World) : ∀ is : List Nat, (∀ i ∈ is, i < 32) →
    (Op.eqItems 9999 5 1 (rawV xs) (rawV ys) is).run Try.prog w = .ok (is.all fun i => xs.getD i 0 == ys.getD i 0) w := eqIt_any xs ys 32 hl hm w
theorem eqR32 (xs ys : List UInt8) (hl : xs.length = 32) (hm : ys.length = 32) (w : World) : (Op.equalIn 10000 32 (.agg (rawV xs)) (.agg (rawV ys))).run Try.prog w = .ok (decide (xs = ys)) w := by
  obtain ⟨i, hi⟩ : ∃ i, Try.prog.info? 5 = some i := Option.isSome_iff_exists.1 (by kernel_rfl)
  rw [run_equalIn_array w 9999 (rawV xs) (rawV ys) Try.underlying32 hi, show Try.prog.cellsOf 5 = 1 by kernel_rfl, eqIt32 xs ys hl hm w _ fun i hi => List.mem_range.1 hi, all_eqN xs ys 32 hl hm]
theorem eq_ar32 (xs ys : List UInt8) (hl : xs.length = 32) (hm : ys.length = 32) (x y : Operand) (w : World) : (do eqGuard .eql 32 x y (.agg (rawV xs)) (.agg (rawV ys)); Go.binOp .eql 32 (.agg (rawV xs)) (.agg (rawV ys)) : Sem Value).run Try.prog w = .ok (.bool (decide (xs = ys))) w := by
  have h := eqR32 xs ys hl hm w
  have g : Try.prog.eqGuardType Try.prog.depth 32 = false := by kernel_rfl
  simp [eqGuard, Go.binOp, Op.equal, Op.maxDepth, Sem.run_bind, g, h]
theorem neq_ar32 (xs ys : List UInt8) (hl : xs.length = 32) (hm : ys.length = 32) (x y : Operand) (w : World) : (do eqGuard .neq 32 x y (.agg (rawV xs)) (.agg (rawV ys)); Go.binOp .neq 32 (.agg (rawV xs)) (.agg (rawV ys)) : Sem Value).run Try.prog w = .ok (.bool (!decide (xs = ys))) w := by
  have h := eqR32 xs ys hl hm w
  have g : Try.prog.eqGuardType Try.prog.depth 32 = false := by kernel_rfl
  simp [eqGuard, Go.binOp, Op.equal, Op.maxDepth, Sem.run_bind, g, h]
theorem arJ32 {xs : List UInt8} (h : xs.length = 32) : (Try.prog.info? 32).map (·.size) = some (rawV xs).size := by rw [rawV_size, h]; exact arI32
theorem arL36 : Try.prog.arrayLen 23 = 36 := by kernel_rfl
theorem arZ36 (W : World) : (sizeOf (Try.prog.elem 23)).run Try.prog W = .ok 1 W := by kernel_rfl
theorem arS36 (g : Nat) (W : World) : (Instr.sliceAt 23 (.pointer (some ⟨g, 0, none⟩)) none none none).run Try.prog W = .ok (.slice (some ⟨g, 0, none⟩) 36 36) W := by
  rw [run_sliceAt_array_all (P := Try.prog) (w := W) (t := 23) (a := ⟨g, 0, none⟩) (by kernel_rfl), arZ36, Result.andThen_ok]
  unfold slicedAt
  rw [arL36, Nat.zero_mul, addr_addZ, if_neg (by omega)]
theorem arX36 (g k : Nat) (hk : k < 36) (W : World) : (Instr.indexAt 23 (.pointer (some ⟨g, 0, none⟩)) (.int .i64 (k : Int))).run Try.prog W = .ok (.pointer (some ⟨g, k, none⟩)) W := by
  rw [run_indexAt_array (P := Try.prog) (w := W) 23 ⟨g, 0, none⟩ .i64 (k : Int) (by kernel_rfl), arL36, if_pos (by omega), arZ36, Result.andThen_ok, Int.toNat_natCast, Nat.mul_one, addr_addZ]
theorem arI36 : (Try.prog.info? 23).map (·.size) = some 36 := by kernel_rfl
theorem al36 : ∀ w : World, (Instr.alloc 23 true (.tuple #[])).run Try.prog w = .ok (.pointer (some ⟨w.heap.size, 0, none⟩)) (w.alloc (.cells (rawV (List.replicate 36 0)) 23)) := fun _ => by kernel_rfl
theorem eqIt36 (xs ys : List UInt8) (hl : xs.length = 36) (hm : ys.length = 36) (w : World) : ∀ is : List Nat, (∀ i ∈ is, i < 36) →
    (Op.eqItems 9999 5 1 (rawV xs) (rawV ys) is).run Try.prog w = .ok (is.all fun i => xs.getD i 0 == ys.getD i 0) w := eqIt_any xs ys 36 hl hm w
theorem eqR36 (xs ys : List UInt8) (hl : xs.length = 36) (hm : ys.length = 36) (w : World) : (Op.equalIn 10000 23 (.agg (rawV xs)) (.agg (rawV ys))).run Try.prog w = .ok (decide (xs = ys)) w := by
  obtain ⟨i, hi⟩ : ∃ i, Try.prog.info? 5 = some i := Option.isSome_iff_exists.1 (by kernel_rfl)
  rw [run_equalIn_array w 9999 (rawV xs) (rawV ys) Try.underlying23 hi, show Try.prog.cellsOf 5 = 1 by kernel_rfl, eqIt36 xs ys hl hm w _ fun i hi => List.mem_range.1 hi, all_eqN xs ys 36 hl hm]
theorem eq_ar36 (xs ys : List UInt8) (hl : xs.length = 36) (hm : ys.length = 36) (x y : Operand) (w : World) : (do eqGuard .eql 23 x y (.agg (rawV xs)) (.agg (rawV ys)); Go.binOp .eql 23 (.agg (rawV xs)) (.agg (rawV ys)) : Sem Value).run Try.prog w = .ok (.bool (decide (xs = ys))) w := by
  have h := eqR36 xs ys hl hm w
  have g : Try.prog.eqGuardType Try.prog.depth 23 = false := by kernel_rfl
  simp [eqGuard, Go.binOp, Op.equal, Op.maxDepth, Sem.run_bind, g, h]
theorem neq_ar36 (xs ys : List UInt8) (hl : xs.length = 36) (hm : ys.length = 36) (x y : Operand) (w : World) : (do eqGuard .neq 23 x y (.agg (rawV xs)) (.agg (rawV ys)); Go.binOp .neq 23 (.agg (rawV xs)) (.agg (rawV ys)) : Sem Value).run Try.prog w = .ok (.bool (!decide (xs = ys))) w := by
  have h := eqR36 xs ys hl hm w
  have g : Try.prog.eqGuardType Try.prog.depth 23 = false := by kernel_rfl
  simp [eqGuard, Go.binOp, Op.equal, Op.maxDepth, Sem.run_bind, g, h]
theorem arJ36 {xs : List UInt8} (h : xs.length = 36) : (Try.prog.info? 23).map (·.size) = some (rawV xs).size := by rw [rawV_size, h]; exact arI36
theorem arL39 : Try.prog.arrayLen 36 = 39 := by kernel_rfl
theorem arZ39 (W : World) : (sizeOf (Try.prog.elem 36)).run Try.prog W = .ok 1 W := by kernel_rfl
theorem arS39 (g : Nat) (W : World) : (Instr.sliceAt 36 (.pointer (some ⟨g, 0, none⟩)) none none none).run Try.prog W = .ok (.slice (some ⟨g, 0, none⟩) 39 39) W := by
  rw [run_sliceAt_array_all (P := Try.prog) (w := W) (t := 36) (a := ⟨g, 0, none⟩) (by kernel_rfl), arZ39, Result.andThen_ok]
  unfold slicedAt
  rw [arL39, Nat.zero_mul, addr_addZ, if_neg (by omega)]
theorem arX39 (g k : Nat) (hk : k < 39) (W : World) : (Instr.indexAt 36 (.pointer (some ⟨g, 0, none⟩)) (.int .i64 (k : Int))).run Try.prog W = .ok (.pointer (some ⟨g, k, none⟩)) W := by
  rw [run_indexAt_array (P := Try.prog) (w := W) 36 ⟨g, 0, none⟩ .i64 (k : Int) (by kernel_rfl), arL39, if_pos (by omega), arZ39, Result.andThen_ok, Int.toNat_natCast, Nat.mul_one, addr_addZ]
theorem arI39 : (Try.prog.info? 36).map (·.size) = some 39 := by kernel_rfl
theorem al39 : ∀ w : World, (Instr.alloc 36 true (.tuple #[])).run Try.prog w = .ok (.pointer (some ⟨w.heap.size, 0, none⟩)) (w.alloc (.cells (rawV (List.replicate 39 0)) 36)) := fun _ => by kernel_rfl
theorem eqIt39 (xs ys : List UInt8) (hl : xs.length = 39) (hm : ys.length = 39) (w : World) : ∀ is : List Nat, (∀ i ∈ is, i < 39) →
    (Op.eqItems 9999 5 1 (rawV xs) (rawV ys) is).run Try.prog w = .ok (is.all fun i => xs.getD i 0 == ys.getD i 0) w := eqIt_any xs ys 39 hl hm w
theorem eqR39 (xs ys : List UInt8) (hl : xs.length = 39) (hm : ys.length = 39) (w : World) : (Op.equalIn 10000 36 (.agg (rawV xs)) (.agg (rawV ys))).run Try.prog w = .ok (decide (xs = ys)) w := by
  obtain ⟨i, hi⟩ : ∃ i, Try.prog.info? 5 = some i := Option.isSome_iff_exists.1 (by kernel_rfl)
  rw [run_equalIn_array w 9999 (rawV xs) (rawV ys) Try.underlying36 hi, show Try.prog.cellsOf 5 = 1 by kernel_rfl, eqIt39 xs ys hl hm w _ fun i hi => List.mem_range.1 hi, all_eqN xs ys 39 hl hm]
theorem eq_ar39 (xs ys : List UInt8) (hl : xs.length = 39) (hm : ys.length = 39) (x y : Operand) (w : World) : (do eqGuard .eql 36 x y (.agg (rawV xs)) (.agg (rawV ys)); Go.binOp .eql 36 (.agg (rawV xs)) (.agg (rawV ys)) : Sem Value).run Try.prog w = .ok (.bool (decide (xs = ys))) w := by
  have h := eqR39 xs ys hl hm w
  have g : Try.prog.eqGuardType Try.prog.depth 36 = false := by kernel_rfl
  simp [eqGuard, Go.binOp, Op.equal, Op.maxDepth, Sem.run_bind, g, h]
theorem neq_ar39 (xs ys : List UInt8) (hl : xs.length = 39) (hm : ys.length = 39) (x y : Operand) (w : World) : (do eqGuard .neq 36 x y (.agg (rawV xs)) (.agg (rawV ys)); Go.binOp .neq 36 (.agg (rawV xs)) (.agg (rawV ys)) : Sem Value).run Try.prog w = .ok (.bool (!decide (xs = ys))) w := by
  have h := eqR39 xs ys hl hm w
  have g : Try.prog.eqGuardType Try.prog.depth 36 = false := by kernel_rfl
  simp [eqGuard, Go.binOp, Op.equal, Op.maxDepth, Sem.run_bind, g, h]
theorem arJ39 {xs : List UInt8} (h : xs.length = 39) : (Try.prog.info? 36).map (·.size) = some (rawV xs).size := by rw [rawV_size, h]; exact arI39
section
variable {P : Program} {d : Nat} {xs ys : Array Value} {f : Field} {fs : List Field} {w : World} {r e : Bool} {a b : Int}
theorem eqF_u8 (hn : f.name ≠ "_") (ht : P.underlying f.type = some (.int .u8)) (hx : xs[f.offset]? = some (.int .u8 a)) (hy : ys[f.offset]? = some (.int .u8 b)) (hr : (Op.eqFields (d + 1) xs ys fs).run P w = .ok r w) :
    (Op.eqFields (d + 1) xs ys (f :: fs)).run P w = .ok (decide (a = b) && r) w := by
  have ha : (isAgg f.type).run P w = .ok false w := by simp [isAgg, run_underlying ht, Sem.run_bind]
  by_cases h : a = b
  · subst h
    simp [Op.eqFields, hn, part, ha, hx, hy, Sem.run_bind, run_equalIn_int (P := P) w d f.type .u8 .u8 a a ht, hr]
  · simp [Op.eqFields, hn, part, ha, hx, hy, Sem.run_bind, run_equalIn_int (P := P) w d f.type .u8 .u8 a b ht, h]
end
theorem eqVd (a b c a' b' c' : Int) (w : World) : (Op.equalIn 10000 30 (.agg #[.int .i64 a, .int .i64 b, .int .u8 c]) (.agg #[.int .i64 a', .int .i64 b', .int .u8 c'])).run Try.prog w = .ok (decide (a = a') && (decide (b = b') && (decide (c = c') && true))) w := by
  rw [run_equalIn_struct w 9999 30 _ _ (by kernel_rfl) (by kernel_rfl)]
  simp only [Program.fieldsOf, Try.underlying30]
  exact eqF_int (by decide) Try.underlying3 rfl rfl (eqF_int (by decide) Try.underlying3 rfl rfl (eqF_u8 (by decide) Try.underlying5 rfl rfl eqF_nil))
theorem eql_Verdict {a b c a' b' c' : Int} {x y : Operand} {w : World} : (do eqGuard .eql 30 x y (.agg #[.int .i64 a, .int .i64 b, .int .u8 c]) (.agg #[.int .i64 a', .int .i64 b', .int .u8 c']); Go.binOp .eql 30 (.agg #[.int .i64 a, .int .i64 b, .int .u8 c]) (.agg #[.int .i64 a', .int .i64 b', .int .u8 c']) : Sem Value).run Try.prog w = .ok (.bool (decide (a = a') && (decide (b = b') && (decide (c = c') && true)))) w := by
  have h := eqVd a b c a' b' c' w
  have g : Try.prog.eqGuardType Try.prog.depth 30 = false := by kernel_rfl
  simp [eqGuard, Go.binOp, Op.equal, Op.maxDepth, Sem.run_bind, g, h]
theorem neq_Verdict {a b c a' b' c' : Int} {x y : Operand} {w : World} : (do eqGuard .neq 30 x y (.agg #[.int .i64 a, .int .i64 b, .int .u8 c]) (.agg #[.int .i64 a', .int .i64 b', .int .u8 c']); Go.binOp .neq 30 (.agg #[.int .i64 a, .int .i64 b, .int .u8 c]) (.agg #[.int .i64 a', .int .i64 b', .int .u8 c']) : Sem Value).run Try.prog w = .ok (.bool (!(decide (a = a') && (decide (b = b') && (decide (c = c') && true))))) w := by
  have h := eqVd a b c a' b' c' w
  have g : Try.prog.eqGuardType Try.prog.depth 30 = false := by kernel_rfl
  simp [eqGuard, Go.binOp, Op.equal, Op.maxDepth, Sem.run_bind, g, h]

section
variable {F : Fence} {n : Nat} {P : Program} {ops : Array Oper} {Q : Exit → Act → World → Prop} {a : Act} {W W' : World} {rest : List Oper} {o : Oper}
theorem op_copy [FreeF F] (T : TypeId) (s x : Operand) (ho : o.op = .call { callee := .builtin .copy, args := #[s, x], argTypes := #[T, T] }) (hw : Region.wanted o (yielded ops a.tmps) = true) (v u v' : Value) (hs : a.eval s = v) (hx : a.eval x = u)
    (hr : ∀ ty, (Builtin.copy_ #[T, T] ty #[v, u]).run P W = .ok v' W') (h : wpListIn F n P ops Q rest (a.put o.dst v') W') : wpListIn F n P ops Q (o :: rest) a W :=
  wpListIn_val hw (by unfold noDefer; rw [ho]) v' (by simp [execOp, ho, resolve, invoke, builtin, hs, hx, hr, Result.andThen]) h
end
/-- A copy into the start of an own row of bytes. -/
theorem copy_own {B : Nat} {base W : World} {L : Objs} {k g : Nat} {t : TypeId} {zs xs : List UInt8} {v : Value} {B' : Nat} (hO : Own B base L W) (hk : L[k]? = some (g, .cells (rawV zs) t (0, 0))) (hf : Fr B' W v xs) (hl : xs.length ≤ zs.length) :
    ∃ u W', (∀ ty, (Builtin.copy_ #[52, 52] ty #[.slice (some ⟨g, 0, none⟩) zs.length zs.length, v]).run Try.prog W = .ok u W') ∧ Own B base (L.set k (g, .cells (rawV (xs ++ zs.drop xs.length)) t (0, 0))) W' ∧ W'.heap.size = W.heap.size := by
  rcases hf.2 with ⟨rfl, h0⟩ | ⟨g2, cap, cur, rfl, hg, hh, h1, h2, h3, h4⟩
  · obtain rfl : xs = [] := List.length_eq_zero_iff.1 h0
    refine ⟨_, W, fun ty => run_copy_nil (P := Try.prog) W 52 52 ty 5 ⟨g, 0, none⟩ zs.length zs.length Try.underlying52 (by kernel_rfl), ?_, rfl⟩
    have e : L.set k (g, .cells (rawV ([] ++ zs.drop ([] : List UInt8).length)) t (0, 0)) = L := by
      rw [List.nil_append, List.length_nil, List.drop_zero]
      refine List.ext_getElem? fun i => ?_
      rw [List.getElem?_set]
      split
      · rename_i e; subst e
        obtain ⟨hlt, _⟩ := List.getElem?_eq_some_iff.1 hk
        rw [if_pos hlt, hk]
      · rfl
    rw [e]; exact hO
  · have hr : RdB W (some ⟨g2, 0, none⟩) xs := by
      obtain ⟨A, c, e, _, _, hr⟩ := hf.open
      injection e with e
      rw [e]; exact hr
    have h := fun ty => run_copy_row (P := Try.prog) W 52 52 ty 5 g 0 zs.length zs.length ⟨g2, 0, none⟩ xs.length cap (rawV zs) t (xs.map vU) Try.underlying52 szU8 (hO.get hk) (by rw [List.length_map]; exact (Nat.min_eq_left hl).symm) (rd_cells hr) (by rw [List.length_map, rawV_size]; omega) (vU_one xs)
    refine ⟨_, _, h, ?_, by simp⟩
    have e : ((rawV zs).toList.take 0 ++ xs.map vU ++ (rawV zs).toList.drop (0 + (xs.map vU).length)).toArray = rawV (xs ++ zs.drop xs.length) := by
      unfold rawV
      simp [List.map_append, List.map_drop]
    rw [e]
    exact hO.setRow hk _

/-- All symbols ahead of the division: noughts, data, virtual ones. -/
def msgL (d v : List UInt8) : List UInt8 := List.replicate 4 0 ++ d ++ v
def modG (d v : List UInt8) : List UInt8 := modL (msgL d v) genL (gi (co genL (tlL genL - 1)))
/-- The checks of data. -/
def chkL (d v : List UInt8) : List UInt8 := ofF 4 (co (modG d v))
theorem chkL_len (d v : List UInt8) : (chkL d v).length = 4 := ofF_len _ _
theorem genL_tl : tlL genL = 5 := by
  have h := rtTo_tl [1, 2, 4, 8] 4
  exact h
theorem genL_len : genL.length = 5 := by rw [genL_eq]; rfl
theorem modG_le (d v : List UInt8) : (modG d v).length ≤ 4 := by
  have h := (modL_spec (p := msgL d v) (q := genL) (t := gi (co genL (tlL genL - 1))) (by rw [genL_tl]; omega) (gm_gi (tlL_top genL (t := tlL genL - 1) (by rw [genL_tl])))).2
  rw [modL_trimmed, genL_tl] at h
  exact Nat.le_of_lt_succ h
theorem chkL_copy (d v : List UInt8) : modG d v ++ (List.replicate 4 (0 : UInt8)).drop (modG d v).length = chkL d v := by
  have hl := modG_le d v
  refine list_ext (by rw [chkL_len]; simp; omega) fun i hi => ?_
  have hi4 : i < 4 := by simp at hi; omega
  unfold chkL
  rw [co_ofF, if_pos hi4]
  unfold co
  rw [List.getD_eq_getElem?_getD, List.getD_eq_getElem?_getD]
  by_cases h : i < (modG d v).length
  · rw [List.getElem?_append_left h]
  · rw [List.getElem?_append_right (by omega), List.getElem?_eq_none (l := modG d v) (by omega), List.getElem?_drop]
    rw [show (modG d v).length + (i - (modG d v).length) = i by omega, List.getElem?_replicate, if_pos hi4]
    rfl

set_option maxRecDepth 100000 in
set_option maxHeartbeats 1000000 in
theorem checks_any (cb fb : Nat) (d v : List UInt8) (hd : d.length = 32) (hv : v.length = 3) (w : World) (hC : CodeAt w cb fb) :
    Calls Try.prog 18 #[.pointer (some ⟨cb, 0, none⟩), .agg (rawV d), .agg (rawV v)] w fun e w' => e = .returned (.agg (rawV (chkL d v))) ∧ Below w.heap.size w w' := by
  have HC := Lib.hid hC
  have HLA := Lib.hid hd
  have HLV := Lib.hid hv
  obtain ⟨b0, hb0⟩ : ∃ b0, w.heap.size = b0 := ⟨_, rfl⟩
  have HB0 := Lib.hid hb0
  have OW := Lib.hid (Own.start b0 w)
  have OZ := Lib.hid (And.intro hb0 (Nat.le_refl b0))
  clear hb0
  clear hC hd hv
  refine (callsIn_wide (n := 6)).1 ?_
  refine callsIn_of_wp_marks Try.func18 rfl trivial ?_ rfl
  simp only [Try.ntmps18, List.size_toArray, List.length_cons, List.length_nil, Nat.reduceAdd, Nat.reduceSub, Array.replicate_succ, Array.replicate_zero, List.push_toArray, List.append_toArray, List.nil_append, List.cons_append]
  gi_wp2_with (first
    | (refine own_box 32 (.tmp 1) rfl rfl (.agg (rawV d)) rfl (rawV d) rfl OW OZ ?_; clear OW OZ; intro W OW OZ)
    | (refine own_box 24 (.tmp 2) rfl rfl (.agg (rawV v)) rfl (rawV v) rfl OW OZ ?_; clear OW OZ; intro W OW OZ)
    | (refine own_alloc 22 rfl rfl _ al4 OW OZ ?_; clear OW OZ; intro W OW OZ))
  refine wpIn_region_held 4 (atD [[], [], [0, 1], []]) (atV [fun v W => ∃ g, v = .slice (some ⟨g, 0, none⟩) 4 4 ∧ b0 ≤ g ∧ Blk W g 5 (rowV (List.replicate 4 (0 : UInt8)) []), fun v _ => v = .slice (some ⟨b0, 0, none⟩) 32 32,
    fun v W => ∃ g rest, v = .slice (some ⟨g, 0, none⟩) 36 (36 + rest.length) ∧ b0 + 1 + 1 + 1 + 1 ≤ g ∧ 36 + rest.length ≤ maxLen ∧ Blk W g 5 (rowV ((List.replicate 4 (0 : UInt8)) ++ d) rest), fun v _ => v = .slice (some ⟨(b0 + 1), 0, none⟩) 3 3]) BelowR (by kernel_rfl) (by kernel_rfl) BelowR.trans (BelowR.drew _)
    (StV.atV (.cons (fun v x y ⟨g, h1, h2, h3⟩ hb => ⟨g, h1, h2, h3.below hb h3.lt⟩) (.const _ (.cons (fun v x y ⟨g, r, h1, h2, h3, h4⟩ hb => ⟨g, r, h1, h2, h3, h4.below hb h4.lt⟩) (.const _ .nil)))))
    ⟨?o0, ?o1, ?o2, ?o3, trivial⟩ ?hend
  case o0 => exact held_valW free_wide rfl (by rfl) fun xH w' kH hR => ⟨_, _, run_makeO rfl rfl (makeRow 4 (by omega) w'), ⟨_, rfl, Nat.le_trans OZ.out.2 (by rw [← OZ.out.1]; exact hR.size), Blk.new w' _ _⟩, (Below.refl _ w').alloc (Nat.le_refl _) _⟩
  case o1 => exact held_run free_wide rfl (by rfl) BelowR.refl fun xH w' kH hR => ⟨_, run_sliceO rfl (by rw [show (putsH xH _ 0 _).eval (.tmp 4) = .pointer (some ⟨b0, 0, none⟩) from (putsH_old (by kernel_rfl)).trans rfl]; exact arS32 b0 w'), rfl⟩
  case o3 => exact held_run free_wide rfl (by rfl) BelowR.refl fun xH w' kH hR => ⟨_, run_sliceO rfl (by rw [show (putsH xH _ 0 _).eval (.tmp 5) = .pointer (some ⟨(b0 + 1), 0, none⟩) from (putsH_old (by kernel_rfl)).trans rfl]; exact arS3 (b0 + 1) w'), rfl⟩
  case o2 =>
    refine held_valW free_wide rfl (by rfl) fun xH w' kH hR => ?_
    obtain ⟨g, hg1, hg2, hg3⟩ : ∃ g, xH 0 = .slice (some ⟨g, 0, none⟩) 4 4 ∧ b0 ≤ g ∧ Blk w' g 5 (rowV (List.replicate 4 (0 : UInt8)) []) := kH 0 (by decide)
    have h1 : xH 1 = .slice (some ⟨b0, 0, none⟩) 32 32 := kH 1 (by decide)
    have hr : RdB w' (some ⟨b0, 0, none⟩) d := RdB.raw ((OW.out.step hR).blk (k := 0) rfl)
    obtain ⟨rest', hm, hrun⟩ := run_app_grow (xs := (List.replicate 4 (0 : UInt8))) (rest := []) (c := 32) hg3 hr (by rw [HLA.out]; decide) (by rw [HLA.out]; decide)
    rw [HLA.out] at hrun hm
    refine ⟨_, _, run_appO rfl (by rw [putsH_tmp (i := 0) (by kernel_rfl) (by kernel_rfl)]; exact hg1) (by rw [putsH_tmp (i := 1) (by kernel_rfl) (by kernel_rfl)]; exact h1) hrun, ⟨_, rest', rfl, (by rw [← OZ.out.1]; exact hR.size), hm, Blk.new w'.drew _ _⟩, ?_⟩
    exact Below.alloc (⟨rfl, rfl, rfl, Nat.le_refl _, fun _ _ => rfl⟩ : Below w'.heap.size w' w'.drew) (Nat.le_refl _) _
  intro xH w' hv hR
  obtain ⟨g0, h0, _, _⟩ : ∃ g, xH 0 = .slice (some ⟨g, 0, none⟩) 4 4 ∧ b0 ≤ g ∧ Blk w' g 5 (rowV (List.replicate 4 (0 : UInt8)) []) := hv 0 (by omega)
  have h1 : xH 1 = .slice (some ⟨b0, 0, none⟩) 32 32 := hv 1 (by omega)
  obtain ⟨g, rest, h2, hg, hm, hblk⟩ : ∃ (g : Nat) (rest : List Value), xH 2 = .slice (some ⟨g, 0, none⟩) 36 (36 + rest.length) ∧ b0 + 1 + 1 + 1 + 1 ≤ g ∧ 36 + rest.length ≤ maxLen ∧ Blk w' g 5 (rowV ((List.replicate 4 (0 : UInt8)) ++ d) rest) := hv 2 (by omega)
  have h3 : xH 3 = .slice (some ⟨(b0 + 1), 0, none⟩) 3 3 := hv 3 (by omega)
  simp only [List.take_succ_cons, List.take_zero, List.drop_succ_cons, List.drop_zero, putsH, Act.put, List.setIfInBounds_toArray, List.set_cons_succ, List.set_cons_zero, h0, h1, h2, h3]
  have hl36 : ((List.replicate 4 (0 : UInt8)) ++ d : List UInt8).length = 36 := by rw [List.length_append, HLA.out]; rfl
  have hfr := Fr.ofBlk (B := b0 + 1 + 1 + 1 + 1) hblk hg (by rw [hl36]; exact hm)
  have hrv : RdB w' (some ⟨(b0 + 1), 0, none⟩) v := RdB.raw ((OW.out.step hR).blk (k := 1) rfl)
  obtain ⟨v', w2, hrun, hfr2, hb2⟩ := run_app (ys := v) (c := 3) hfr hrv (fun h => by cases h) (by rw [← OZ.out.1]; exact hR.size) (by rw [hl36, HLV.out]; decide)
  rw [hl36, HLV.out] at hrun
  have hl39 : ((List.replicate 4 (0 : UInt8)) ++ d ++ v : List UInt8).length = 39 := by rw [List.length_append, hl36, HLV.out]
  obtain ⟨g9, rest9, rfl, hg9, hm9, hblk9⟩ := hfr2.row (by rw [hl39]; decide)
  rw [hl39] at hrun hm9
  have OW2 := Lib.hid (Own.add OW.out (Below.trans (show Below W.heap.size W w' from hR) (by rw [OZ.out.1]; exact hb2)) (by rw [OZ.out.1]; exact OZ.out.2) (by rw [OZ.out.1]; exact hg9) hblk9)
  obtain ⟨G2, OZ2⟩ := own_size OW2 HB0
  have HRUN := Lib.hid hrun
  have HL39 := Lib.hid hl39
  clear hv hR OW OZ hrun hfr2 hb2 hfr hrv hblk hl36 hblk9 hl39 hm9 hg9
  have OW := OW2
  have OZ := OZ2
  clear OW2 OZ2
  gi_wp2_with (refine op_append 52 (.tmp 13) (.tmp 14) rfl rfl (.slice (some ⟨g, 0, none⟩) 36 (36 + rest.length)) (.slice (some ⟨(b0 + 1), 0, none⟩) 3 3) (.slice (some ⟨g9, 0, none⟩) 39 (39 + rest9.length)) rfl rfl HRUN.out ?_)
  obtain ⟨A5, c5, hcb, hcf, hcg, hc5⟩ := HC.out
  have HCB := Lib.hid (show cb < b0 by rw [← HB0.out]; exact hcb.lt)
  have HCD := Lib.hid (And.intro hcb (And.intro hcf hcg))
  clear hcb hcf hcg HRUN
  have hmod : ∀ W, Below w2.heap.size w2 W → Calls Try.prog 30 #[.pointer (some ⟨fb, 0, none⟩), .slice (some ⟨g9, 0, none⟩) 39 (39 + rest9.length), .slice A5 5 c5] W fun r W' => ∃ u, r = .returned (.tuple #[u, .int .i64 0]) ∧ Fr W.heap.size W' u (modG d v) ∧ Below W.heap.size W W' := fun W hb => by
    have h1 := (OW.out.step hb).below (Nat.le_of_eq HB0.out.symm)
    exact pmod_any fb (some ⟨g9, 0, none⟩) A5 39 5 (39 + rest9.length) c5 (msgL d v) genL HL39.out genL_len (by omega) (by omega) (by rw [genL_tl]; omega) W ((h1.block fb (by rw [← HB0.out]; exact (Array.getElem?_eq_some_iff.1 HCD.out.2.1).1)).trans HCD.out.2.1) (RdB.row ((OW.out.step hb).blk (k := 4) rfl)) (HCD.out.2.2.below (HB0.out ▸ h1))
  have hld : ∀ W i u, Below w2.heap.size w2 W → (#[Value.pointer (some ⟨fb, 0, none⟩), .slice A5 5 c5] : Array Value)[i]? = some u → W.cell? ⟨cb, i, none⟩ = some u := fun W i u hb hi => by
    have h1 := (OW.out.step hb).below (Nat.le_of_eq HB0.out.symm)
    exact ((HCD.out.1.below h1 HCB.out).cell i).trans hi
  have HMOD := Lib.hid hmod
  have HLD := Lib.hid hld
  clear hmod hld
  gi_upto_region 3 with fail
  refine wpIn_region_held 15 (atD [[], [0], [1], [2], [], [], [5], [6], [7], [3, 4, 8], [9], [10], [10], [11], [12]]) (atV [fun v _ => v = .pointer (some ⟨cb, 0, none⟩), fun v _ => v = .pointer (some ⟨cb, 0, none⟩), fun v _ => v = .pointer (some ⟨cb, 0, none⟩), fun v _ => v = .pointer (some ⟨fb, 0, none⟩), fun u _ => u = .slice (some ⟨g9, 0, none⟩) 39 (39 + rest9.length),
    fun v _ => v = .pointer (some ⟨cb, 0, none⟩), fun v _ => v = .pointer (some ⟨cb, 0, none⟩), fun v _ => v = .pointer (some ⟨cb, 1, none⟩), fun v _ => v = .slice A5 5 c5,
    fun t W => ∃ u, t = .tuple #[u, .int .i64 0] ∧ Fr G2 W u (modG d v), fun t W => ∃ u, t = .tuple #[u, .int .i64 0] ∧ Fr G2 W u (modG d v), fun u W => Fr G2 W u (modG d v), fun u _ => u = .int .i64 0, fun u W => Fr G2 W u (modG d v), fun u _ => u = .int .i64 0]) BelowR (by kernel_rfl) (by kernel_rfl) BelowR.trans (BelowR.drew _)
    (StV.atV (.const _ (.const _ (.const _ (.const _ (.const _ (.const _ (.const _ (.const _ (.const _ (.cons (fun t x y ⟨u, h1, h2⟩ hb => ⟨u, h1, h2.below hb⟩) (.cons (fun t x y ⟨u, h1, h2⟩ hb => ⟨u, h1, h2.below hb⟩) (.cons (fun t x y h hb => h.below hb) (.const _ (.cons (fun t x y h hb => h.below hb) (.const _ .nil))))))))))))))))
    ⟨?p0, ?p1, ?p2, ?p3, ?p4, ?p5, ?p6, ?p7, ?p8, ?p9, ?p10, ?p11, ?p12, ?p13, ?p14, trivial⟩ ?pend
  case p0 => exact held_move free_wide rfl BelowR.refl (.tmp 0) (.inl rfl) fun xH w' _ _ => (putsH_old (by kernel_rfl)).trans rfl
  case p5 => exact held_move free_wide rfl BelowR.refl (.tmp 0) (.inl rfl) fun xH w' _ _ => (putsH_old (by kernel_rfl)).trans rfl
  case p4 => exact held_move free_wide rfl BelowR.refl (.tmp 8) (.inl rfl) fun xH w' _ _ => (putsH_old (by kernel_rfl)).trans rfl
  case p1 => exact held_run free_wide rfl (by rfl) BelowR.refl fun xH w' kH hR => ⟨.pointer (some ⟨cb, 0, none⟩), run_nilO (p := ⟨cb, 0, none⟩) rfl (by rw [putsH_tmp (i := 0) (by kernel_rfl) (by kernel_rfl)]; exact kH 0 (by decide)), rfl⟩
  case p6 => exact held_run free_wide rfl (by rfl) BelowR.refl fun xH w' kH hR => ⟨.pointer (some ⟨cb, 0, none⟩), run_nilO (p := ⟨cb, 0, none⟩) rfl (by rw [putsH_tmp (i := 5) (by kernel_rfl) (by kernel_rfl)]; exact kH 5 (by decide)), rfl⟩
  case p2 => exact held_run free_wide rfl (by rfl) BelowR.refl fun xH w' kH hR => ⟨.pointer (some ⟨cb, 0, none⟩), run_fldO (vx := .pointer (some ⟨cb, 0, none⟩)) rfl (by rw [putsH_tmp (i := 1) (by kernel_rfl) (by kernel_rfl)]; exact kH 1 (by decide)) (by kernel_rfl), rfl⟩
  case p7 => exact held_run free_wide rfl (by rfl) BelowR.refl fun xH w' kH hR => ⟨.pointer (some ⟨cb, 1, none⟩), run_fldO (vx := .pointer (some ⟨cb, 0, none⟩)) rfl (by rw [putsH_tmp (i := 6) (by kernel_rfl) (by kernel_rfl)]; exact kH 6 (by decide)) (by kernel_rfl), rfl⟩
  case p3 => exact held_load free_wide rfl BelowR.refl 43 (.tmp 19) rfl fun xH w' kH hR => ⟨⟨cb, 0, none⟩, .pointer (some ⟨fb, 0, none⟩), (by rw [putsH_tmp (i := 2) (by kernel_rfl) (by kernel_rfl)]; exact kH 2 (by decide)), run_loadVar_cell (naF w') (HLD.out w' 0 _ hR rfl), rfl⟩
  case p8 => exact held_load free_wide rfl BelowR.refl 52 (.tmp 24) rfl fun xH w' kH hR => ⟨⟨cb, 1, none⟩, .slice A5 5 c5, (by rw [putsH_tmp (i := 7) (by kernel_rfl) (by kernel_rfl)]; exact kH 7 (by decide)), run_loadVar_cell (naS w') (HLD.out w' 1 _ hR rfl), rfl⟩
  case p9 =>
    refine held_call free_wide rfl 30 _ _ rfl (enters_of Try.func30 (by kernel_rfl) rfl) fun xH w' kH hR => ⟨#[.pointer (some ⟨fb, 0, none⟩), .slice (some ⟨g9, 0, none⟩) 39 (39 + rest9.length), .slice A5 5 c5], mapE3 (by rw [putsH_tmp (i := 3) (by kernel_rfl) (by kernel_rfl)]; exact kH 3 (by decide)) (by rw [putsH_tmp (i := 4) (by kernel_rfl) (by kernel_rfl)]; exact kH 4 (by decide)) (by rw [putsH_tmp (i := 8) (by kernel_rfl) (by kernel_rfl)]; exact kH 8 (by decide)), ?_⟩
    refine (callsIn_wide.2 (HMOD.out w' hR)).mono ?_
    rintro r w3 ⟨u, rfl, h1, h2⟩
    exact ⟨_, rfl, ⟨u, rfl, h1.lower (by rw [← OZ.out.1]; exact hR.size)⟩, h2⟩
  case p10 => exact held_move free_wide rfl BelowR.refl (.tmp 26) (.inl rfl) fun xH w' kH _ => by rw [putsH_tmp (i := 9) (by kernel_rfl) (by kernel_rfl)]; exact kH 9 (by decide)
  case p11 =>
    refine held_run free_wide rfl (by rfl) BelowR.refl fun xH w' kH hR => ?_
    obtain ⟨u, h1, h2⟩ : ∃ u, xH 10 = .tuple #[u, .int .i64 0] ∧ Fr G2 w' u (modG d v) := kH 10 (by decide)
    exact ⟨u, run_extO rfl (by rw [putsH_tmp (i := 10) (by kernel_rfl) (by kernel_rfl)]; exact h1) rfl, h2⟩
  case p12 =>
    refine held_run free_wide rfl (by rfl) BelowR.refl fun xH w' kH hR => ?_
    obtain ⟨u, h1, h2⟩ : ∃ u, xH 10 = .tuple #[u, .int .i64 0] ∧ Fr G2 w' u (modG d v) := kH 10 (by decide)
    exact ⟨_, run_extO rfl (by rw [putsH_tmp (i := 10) (by kernel_rfl) (by kernel_rfl)]; exact h1) rfl, rfl⟩
  case p13 => exact held_move free_wide rfl BelowR.refl (.tmp 27) (.inr rfl) fun xH w' kH _ => by rw [putsH_tmp (i := 11) (by kernel_rfl) (by kernel_rfl)]; exact kH 11 (by decide)
  case p14 => exact held_move free_wide rfl BelowR.refl (.tmp 28) (.inr rfl) fun xH w' kH _ => by rw [putsH_tmp (i := 12) (by kernel_rfl) (by kernel_rfl)]; exact kH 12 (by decide)
  case pend =>
    intro xH w' hv hR
    have h13 : Fr G2 w' (xH 13) (modG d v) := hv 13 (by omega)
    have h14 : xH 14 = .int .i64 0 := hv 14 (by omega)
    obtain ⟨u, hu⟩ : ∃ u, xH 13 = u := ⟨_, rfl⟩
    rw [hu] at h13
    simp only [List.take_succ_cons, List.take_zero, List.drop_succ_cons, List.drop_zero, putsH, Act.put, List.setIfInBounds_toArray, List.set_cons_succ, List.set_cons_zero, hu, h14]
    have OW2 := Lib.hid (OW.out.step hR)
    obtain ⟨U, W3, hcp, hO3, hz3⟩ := copy_own (k := 3) (zs := List.replicate 4 0) OW2.out rfl h13 (by have := modG_le d v; simpa using this)
    rw [List.length_replicate] at hcp
    rw [chkL_copy] at hO3
    have HCP := Lib.hid hcp
    have OW3 := Lib.hid hO3
    obtain ⟨G3, OZ3⟩ := own_size OW3 HB0
    have hs4 := arS4 (b0 + 1 + 1 + 1)
    clear hv hR OW OZ hcp hO3 hz3 h13 hu HMOD HLD OW2
    gi_wp2_with (first
      | (refine op_copy 52 (.tmp 31) (.tmp 32) rfl rfl (.slice (some ⟨b0 + 1 + 1 + 1, 0, none⟩) 4 4) u U rfl rfl HCP.out ?_)
      | (refine own_loadRow 3 22 (.tmp 7) rfl rfl rfl rfl _ Try.underlying22 rfl (arJ4 (chkL_len d v)) OW3 ?_)
      | (refine own_storeRow 2 22 (.tmp 6) (.tmp 34) rfl rfl rfl rfl (rawV (chkL d v)) rfl (by rw [rawV_size, rawV_size, chkL_len]; rfl) (rawV_one _) (arJ4 (chkL_len d v)) _ rfl OW3 OZ3 ?_; clear OW3 OZ3; intro W3 OW3 OZ3))
    refine leaves_own [] _ (Nat.le_of_eq HB0.out) (by simpa using OW3.out) ?_
    intro W' hO
    exact ⟨_, results_ownRow hO 2 rfl rfl rfl Try.underlying22 rfl (arJ4 (chkL_len d v)), rfl, hO.done HB0⟩
end Go.Proofs.Ytdgflbbffimpkaa
