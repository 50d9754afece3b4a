/- Values: what operations without memory give; rows of cells, and their equality. -/
import Derived.Test.YtdglhppcfdpcaaaEeC
import Derived.Test.YtdglhppcfdpcaaaOvX
import Derived.Test.YtdglhppcfdpcaaaRwX
import Derived.IntWalk
import Derived.Laws.StructEq
import Derived.Laws.Small
import Derived.ChangeKeysEq
namespace Go.Proofs.Ytdglhppcfdpcaaa.E
open Go Go.RowKit Go.Shelf
set_option linter.unusedVariables false
def sBin (op : BinOp) (T : TypeId) (x y : Operand) (vx vy : Value) : Sem Value := do eqGuard op T x y vx vy; Go.binOp op T vx vy
section
variable {P : Program} {w : World}
theorem u8_xorE (a b : UInt8) : bits .xor .u8 (a.toNat : Int) (b.toNat : Int) = ((a ^^^ b).toNat : Int) := by
  have ha := a.toNat_lt
  have hb := b.toNat_lt
  have h8 : ∀ c : Nat, c < 256 → (BitVec.ofInt 8 (c : Int)).toNat = c := by
    intro c hc
    rw [BitVec.ofInt_natCast, BitVec.toNat_ofNat]; exact Nat.mod_eq_of_lt (by omega)
  have hx : a.toNat ^^^ b.toNat < 2 ^ 8 := Nat.xor_lt_two_pow ha hb
  show IntKind.u8.wrap ((BitVec.ofInt 8 (a.toNat : Int) ^^^ BitVec.ofInt 8 (b.toNat : Int)).toNat : Int) = _
  rw [BitVec.toNat_xor, h8 _ ha, h8 _ hb, UInt8.toNat_xor]
  exact IntWalk.u8_in _ (by omega)
theorem bin_xor_u8 {T : TypeId} {x y : Operand} (a b : UInt8) : (sBin .xor T x y (.int .u8 (a.toNat : Int)) (.int .u8 (b.toNat : Int))).run P w = .ok (.int .u8 ((a ^^^ b).toNat : Int)) w := by
  rw [← u8_xorE]; rfl
end
/-! ReO -/
section
variable {P : Program} {T : TypeId} {x y : Operand} {w : World}
theorem bin_shr_i64 {yk : IntKind} {a : Int} (n : Nat) (hn : n ≤ 64) : (sBin .shr T x y (.int .i64 a) (.int yk (n : Int))).run P w = .ok (.int .i64 (a / 2 ^ n)) w := by
  unfold sBin
  simp only [Sem.run_bind, eqGuard_shr, Sem.run_pure, Result.andThen_ok, binOp_shr, shift_shr_i64 _ _ _ (Int.natCast_nonneg n) (by omega), Int.toNat_natCast]
theorem bin_shr_u64 {yk : IntKind} {a : Nat} (n : Nat) (hn : n ≤ 64) : (sBin .shr T x y (.int .u64 (a : Int)) (.int yk (n : Int))).run P w = .ok (.int .u64 ((a / 2 ^ n : Nat) : Int)) w := by
  unfold sBin
  simp only [Sem.run_bind, eqGuard_shr, Sem.run_pure, Result.andThen_ok, binOp_shr, shift_shr_u64 _ _ _ (Int.natCast_nonneg n) (by omega), Int.toNat_natCast]
  push_cast
  rfl
theorem bin_shl_u64 {yk : IntKind} {a : Nat} (n : Nat) (hn : n ≤ 64) (ha : a * 2 ^ n < 18446744073709551616) : (sBin .shl T x y (.int .u64 (a : Int)) (.int yk (n : Int))).run P w = .ok (.int .u64 ((a * 2 ^ n : Nat) : Int)) w := by
  unfold sBin
  have h1 : IntKind.u64.wrap ((a : Int) * 2 ^ n) = ((a * 2 ^ n : Nat) : Int) := by
    rw [show ((a : Int) * 2 ^ n) = ((a * 2 ^ n : Nat) : Int) by push_cast; rfl, IntKind.wrap_u64]
    omega
  simp only [Sem.run_bind, eqGuard_shl, Sem.run_pure, Result.andThen_ok, binOp_shl, shift_shl_u64 _ _ _ (Int.natCast_nonneg n) (by omega), Int.toNat_natCast, h1]
theorem u64_orN (a b : Nat) (ha : a < 18446744073709551616) (hb : b < 18446744073709551616) : bits .or .u64 (a : Int) (b : Int) = ((a ||| b : Nat) : Int) := by
  have h8 : ∀ c : Nat, c < 18446744073709551616 → (BitVec.ofInt 64 (c : Int)).toNat = c := by
    intro c hc
    rw [BitVec.ofInt_natCast, BitVec.toNat_ofNat]; exact Nat.mod_eq_of_lt (by omega)
  have hx : a ||| b < 2 ^ 64 := Nat.or_lt_two_pow ha hb
  show IntKind.u64.wrap ((BitVec.ofInt 64 (a : Int) ||| BitVec.ofInt 64 (b : Int)).toNat : Int) = _
  rw [BitVec.toNat_or, h8 a ha, h8 b hb, IntKind.wrap_u64]
  omega
theorem u64_xorN (a b : Nat) (ha : a < 18446744073709551616) (hb : b < 18446744073709551616) : bits .xor .u64 (a : Int) (b : Int) = ((a ^^^ b : Nat) : Int) := by
  have h8 : ∀ c : Nat, c < 18446744073709551616 → (BitVec.ofInt 64 (c : Int)).toNat = c := by
    intro c hc
    rw [BitVec.ofInt_natCast, BitVec.toNat_ofNat]; exact Nat.mod_eq_of_lt (by omega)
  have hx : a ^^^ b < 2 ^ 64 := Nat.xor_lt_two_pow ha hb
  show IntKind.u64.wrap ((BitVec.ofInt 64 (a : Int) ^^^ BitVec.ofInt 64 (b : Int)).toNat : Int) = _
  rw [BitVec.toNat_xor, h8 a ha, h8 b hb, IntKind.wrap_u64]
  omega
theorem u8_andB (a b : UInt8) : bits .and .u8 (a.toNat : Int) (b.toNat : Int) = ((a &&& b).toNat : Int) := by
  have h8 : ∀ c : Nat, c < 256 → (BitVec.ofInt 8 (c : Int)).toNat = c := by
    intro c hc
    rw [BitVec.ofInt_natCast, BitVec.toNat_ofNat]; exact Nat.mod_eq_of_lt (by omega)
  show IntKind.u8.wrap ((BitVec.ofInt 8 (a.toNat : Int) &&& BitVec.ofInt 8 (b.toNat : Int)).toNat : Int) = _
  rw [BitVec.toNat_and, h8 _ a.toNat_lt, h8 _ b.toNat_lt, ← UInt8.toNat_and]
  exact IntWalk.u8_in _ (by have := (a &&& b).toNat_lt; omega)
theorem u8_orB (a b : UInt8) : bits .or .u8 (a.toNat : Int) (b.toNat : Int) = ((a ||| b).toNat : Int) := by
  have h8 : ∀ c : Nat, c < 256 → (BitVec.ofInt 8 (c : Int)).toNat = c := by
    intro c hc
    rw [BitVec.ofInt_natCast, BitVec.toNat_ofNat]; exact Nat.mod_eq_of_lt (by omega)
  show IntKind.u8.wrap ((BitVec.ofInt 8 (a.toNat : Int) ||| BitVec.ofInt 8 (b.toNat : Int)).toNat : Int) = _
  rw [BitVec.toNat_or, h8 _ a.toNat_lt, h8 _ b.toNat_lt, ← UInt8.toNat_or]
  exact IntWalk.u8_in _ (by have := (a ||| b).toNat_lt; omega)
theorem bin_or_u64 {a b : Nat} (ha : a < 18446744073709551616) (hb : b < 18446744073709551616) : (sBin .or T x y (.int .u64 (a : Int)) (.int .u64 (b : Int))).run P w = .ok (.int .u64 ((a ||| b : Nat) : Int)) w := by
  rw [← u64_orN a b ha hb]; rfl
theorem bin_xor_u64 {a b : Nat} (ha : a < 18446744073709551616) (hb : b < 18446744073709551616) : (sBin .xor T x y (.int .u64 (a : Int)) (.int .u64 (b : Int))).run P w = .ok (.int .u64 ((a ^^^ b : Nat) : Int)) w := by
  rw [← u64_xorN a b ha hb]; rfl
theorem bin_and_u8 (a b : UInt8) : (sBin .and T x y (.int .u8 (a.toNat : Int)) (.int .u8 (b.toNat : Int))).run P w = .ok (.int .u8 ((a &&& b).toNat : Int)) w := by
  rw [← u8_andB a b]; rfl
theorem bin_or_u8 (a b : UInt8) : (sBin .or T x y (.int .u8 (a.toNat : Int)) (.int .u8 (b.toNat : Int))).run P w = .ok (.int .u8 ((a ||| b).toNat : Int)) w := by
  rw [← u8_orB a b]; rfl
/-- Numbers as other numbers. -/
theorem cvt_u8u64 {S T : TypeId} (hS : P.underlying S = some (.int .u8)) (hT : P.underlying T = some (.int .u64)) {c : UInt8} : (convert S T (.int .u8 (c.toNat : Int))).run P w = .ok (.int .u64 (c.toNat : Int)) w := by
  have h : IntKind.u64.wrap (c.toNat : Int) = (c.toNat : Int) := by rw [IntKind.wrap_u64]; have := c.toNat_lt; omega
  simp only [convert, Sem.run_bind, run_underlying hS, run_underlying hT, Result.andThen_ok, Conv.intToInt, h, Sem.run_pure]
theorem cvt_u64u8 {S T : TypeId} (hS : P.underlying S = some (.int .u64)) (hT : P.underlying T = some (.int .u8)) {c : Nat} : (convert S T (.int .u64 (c : Int))).run P w = .ok (.int .u8 ((UInt8.ofNat c).toNat : Int)) w := by
  have h : IntKind.u8.wrap (c : Int) = ((UInt8.ofNat c).toNat : Int) := by rw [IntKind.wrap_u8, UInt8.toNat_ofNat']; omega
  simp only [convert, Sem.run_bind, run_underlying hS, run_underlying hT, Result.andThen_ok, Conv.intToInt, h, Sem.run_pure]
theorem cvt_i64u {S T : TypeId} (hS : P.underlying S = some (.int .i64)) (hT : P.underlying T = some (.int .u64)) {c : Nat} (hc : c < 18446744073709551616) : (convert S T (.int .i64 (c : Int))).run P w = .ok (.int .u64 (c : Int)) w := by
  have h : IntKind.u64.wrap (c : Int) = (c : Int) := by rw [IntKind.wrap_u64]; omega
  simp only [convert, Sem.run_bind, run_underlying hS, run_underlying hT, Result.andThen_ok, Conv.intToInt, h, Sem.run_pure]
end

/-! ReB -/
/-- A row with room behind it. -/
def rowZ (cs z : List Value) (r : Nat) : Array Value := (cs ++ (List.replicate r z).flatten).toArray
theorem zeros_flat (z : List Value) (r : Nat) : ((List.replicate r z).flatten).length = r * z.length := by
  induction r with
  | zero => simp
  | succ r ih => rw [List.replicate_succ, List.flatten_cons, List.length_append, ih, Nat.succ_mul]; omega
theorem rowZ_size (cs z : List Value) (r : Nat) : (rowZ cs z r).size = cs.length + r * z.length := by unfold rowZ; rw [List.size_toArray, List.length_append, zeros_flat]
theorem zeroCells_flat (z : Array Value) (n : Nat) (hz : 0 < z.size) : (Builtin.zeroCells z n).toList = (List.replicate n z.toList).flatten := by
  have h : ∀ n, ∀ i, i < n * z.size → ((List.replicate n z.toList).flatten)[i]? = z[i % z.size]? := by
    intro n
    induction n with
    | zero => intro i hi; omega
    | succ n ih =>
      intro i hi
      rw [List.replicate_succ, List.flatten_cons]
      by_cases h1 : i < z.size
      · rw [List.getElem?_append_left (by simpa using h1), Nat.mod_eq_of_lt h1, Array.getElem?_toList]
      · rw [List.getElem?_append_right (by simpa using h1), Array.length_toList, ih (i - z.size) (by rw [Nat.succ_mul] at hi; omega)]
        congr 1
        exact (Nat.mod_eq_sub_mod (by omega)).symm
  apply List.ext_getElem?
  intro i
  rcases Nat.lt_or_ge i (n * z.size) with h1 | h1
  · rw [h n i h1]
    have h2 : i % z.size < z.size := Nat.mod_lt _ hz
    unfold Builtin.zeroCells
    simp [h1, h2]
  · rw [List.getElem?_eq_none (by rw [Array.length_toList, size_zeroCells]; exact h1), List.getElem?_eq_none (by rw [zeros_flat]; simpa using h1)]

def sApp (T TY : TypeId) (v u : Value) : Sem Next := vS (Builtin.append_ #[T, T] TY #[v, u])
def sCopy (T U TY : TypeId) (v u : Value) : Sem Next := vS (Builtin.copy_ #[T, U] TY #[v, u])
theorem row_cells {w : World} {g off : Nat} {t : TypeId} {cs : Array Value} {fr : Nat × Nat} {news : List Value} (hb : w.heap[g]? = some (.cells cs t fr)) (hn : (cs.toList.drop off).take news.length = news) : ∀ j u, news[j]? = some u → w.cell? ((⟨g, off, none⟩ : Addr).add j) = some u := by
  intro j u hu
  have hadd : (⟨g, off, none⟩ : Addr).add j = ⟨g, off + j, none⟩ := by unfold Addr.add; split <;> simp_all
  rw [hadd, cell_of_row w g (off + j) cs t fr hb]
  have hj : j < news.length := (List.getElem?_eq_some_iff.1 hu).1
  have h2 := congrArg (fun z => z[j]?) hn
  simp only [List.getElem?_take_of_lt hj, List.getElem?_drop] at h2
  rw [← Array.getElem?_toList, h2]
  exact hu
section
variable {P : Program} {T e : TypeId} {i : TypeInfo} {zv : Value}
/-- What a type of slices is, seen at once. -/
structure SlT (P : Program) (T e : TypeId) (z : List Value) : Prop where
  ht : P.underlying T = some (.slice e)
  hi : ∃ i zv, P.info? e = some i ∧ i.zero = some zv ∧ i.size = z.length ∧ zv.cells.toList = z ∧ i.bytes ≤ 1048576
  h0 : 0 < z.length
theorem SlT.mk' {z : List Value} (ht : P.underlying T = some (.slice e)) (hi : (P.info? e).map (fun i => (i.zero.map (fun v => v.cells.toList), i.size, Nat.ble i.bytes 1048576)) = some (some z, z.length, true)) (h0 : Nat.blt 0 z.length = true) : SlT P T e z := by
  refine ⟨ht, ?_, Nat.blt_eq ▸ h0⟩
  cases hq : P.info? e with
  | none => rw [hq] at hi; cases hi
  | some i =>
    rw [hq] at hi
    simp only [Option.map_some, Option.some.injEq, Prod.mk.injEq] at hi
    cases hz : i.zero with
    | none => rw [hz] at hi; simp at hi
    | some zv =>
      rw [hz] at hi
      exact ⟨i, zv, rfl, hz, hi.2.1, by simpa using hi.1, Nat.le_of_ble_eq_true hi.2.2⟩
end

/-! ReP -/
section
variable {P : Program} {T e : TypeId} {x y : Operand} {w : World}
theorem bin_mul_nat {a b : Nat} (h : a * b < 9223372036854775808) : (sBin .mul T x y (.int .i64 (a : Int)) (.int .i64 (b : Int))).run P w = .ok (.int .i64 ((a * b : Nat) : Int)) w := by
  have h2 : ((a * b : Nat) : Int) < 9223372036854775808 := by omega
  have h3 := Int.natCast_nonneg (a * b)
  have e : ((a * b : Nat) : Int) = (a : Int) * (b : Int) := by push_cast; rfl
  rw [e] at h2 h3 ⊢
  exact bin_mul_in (P := P) (T := T) (x := x) (y := y) (w := w) (a := (a : Int)) (b := (b : Int)) (by omega) (by omega)
theorem bin_add_nat {a b : Nat} (h : a + b < 9223372036854775808) : (sBin .add T x y (.int .i64 (a : Int)) (.int .i64 (b : Int))).run P w = .ok (.int .i64 ((a + b : Nat) : Int)) w := by
  have := bin_add_in (P := P) (T := T) (x := x) (y := y) (w := w) (a := (a : Int)) (b := (b : Int)) (by omega) (by omega)
  rw [show ((a + b : Nat) : Int) = (a : Int) + (b : Int) by push_cast; rfl]
  exact this
theorem add_lit (g off m : Nat) : (⟨g, off, none⟩ : Addr).add m = ⟨g, off + m, none⟩ := by unfold Addr.add; split <;> simp_all
/-- What is seen of the types at once. -/
def sizB (P : Program) (e : TypeId) : Option Nat := (P.info? e).map (·.size)
theorem run_sizeOf {s : Nat} (h : sizB P e = some s) : (sizeOf e).run P w = .ok s w := by
  unfold sizB at h
  cases hq : P.info? e with
  | none => rw [hq] at h; cases h
  | some i =>
    rw [hq] at h
    simp only [Option.map_some, Option.some.injEq] at h
    simp [sizeOf, typeInfo, hq, h]
theorem idx_sl {g off n c k s : Nat} (hT : (P.underlying T, sizB P (P.elem T)) = (some (.slice (P.elem T)), some s)) (hk : k < n) : (Instr.indexAt T (.slice (some ⟨g, off, none⟩) n c) (.int .i64 (k : Int))).run P w = .ok (.pointer (some ⟨g, off + k * s, none⟩)) w := by
  rw [run_indexAt_slice w T _ n c .i64 (k : Int) (congrArg (·.1) hT), if_pos (by omega), run_sizeOf (congrArg (·.2) hT), Result.andThen_ok, Int.toNat_natCast, add_lit]
/-- A part of an array, from l to h. -/
theorem sl_ar {g l h s N : Nat} (hT : (P.underlying T, P.arrayLen T, sizB P (P.elem T)) = (some (.array N (P.elem T)), N, some s)) (h1 : l ≤ h) (h2 : h ≤ N) (h3 : l < N) : (Instr.sliceAt T (.pointer (some ⟨g, 0, none⟩)) (some (.int .i64 (l : Int))) (some (.int .i64 (h : Int))) none).run P w = .ok (.slice (some ⟨g, l * s, none⟩) (h - l) (N - l)) w := by
  have e1 : P.arrayLen T = N := congrArg (·.2.1) hT
  rw [run_sliceAt_array_lh w T ⟨g, 0, none⟩ (by rw [e1]; exact congrArg (·.1) hT) .i64 .i64 (l : Int) (h : Int) (by omega) (by omega) (by rw [e1]; omega), run_sizeOf (congrArg (·.2.2) hT), Result.andThen_ok]
  unfold slicedAt
  rw [e1, Int.toNat_natCast, Int.toNat_natCast, add_lit, Nat.zero_add, if_neg (by omega)]
theorem sl_arl {g l s N : Nat} (hT : (P.underlying T, P.arrayLen T, sizB P (P.elem T)) = (some (.array N (P.elem T)), N, some s)) (h3 : l < N) : (Instr.sliceAt T (.pointer (some ⟨g, 0, none⟩)) (some (.int .i64 (l : Int))) none none).run P w = .ok (.slice (some ⟨g, l * s, none⟩) (N - l) (N - l)) w := by
  have e1 : P.arrayLen T = N := congrArg (·.2.1) hT
  rw [run_sliceAt_array_l w T ⟨g, 0, none⟩ (by rw [e1]; exact congrArg (·.1) hT) .i64 (l : Int) (by omega) (by rw [e1]; omega), run_sizeOf (congrArg (·.2.2) hT), Result.andThen_ok]
  unfold slicedAt
  rw [e1, Int.toNat_natCast, add_lit, Nat.zero_add, if_neg (by omega)]
theorem sl_ara {g s N : Nat} (hT : (P.underlying T, P.arrayLen T, sizB P (P.elem T)) = (some (.array N (P.elem T)), N, some s)) (h3 : 0 < N) : (Instr.sliceAt T (.pointer (some ⟨g, 0, none⟩)) none none none).run P w = .ok (.slice (some ⟨g, 0, none⟩) N N) w := by
  have e1 : P.arrayLen T = N := congrArg (·.2.1) hT
  rw [run_sliceAt_array_all w T ⟨g, 0, none⟩ (by rw [e1]; exact congrArg (·.1) hT), run_sizeOf (congrArg (·.2.2) hT), Result.andThen_ok]
  unfold slicedAt
  rw [e1, add_lit, Nat.zero_mul, if_neg (by omega)]
  rfl
end
/-- Bytes and ints as cells. -/
def bV (xs : List UInt8) : List Value := xs.map fun b => .int .u8 (b.toNat : Int)
theorem rowZ_part {cs z : List Value} {r : Nat} : ((rowZ cs z r).toList.drop 0).take cs.length = cs := by unfold rowZ; rw [List.drop_zero, List.take_append_of_le_length (Nat.le_refl _), List.take_length]
theorem rawV_bV (xs : List UInt8) : rawV xs = (bV xs).toArray := rfl
section
variable {P : Program} {f : FuncId} {args : Array Value} {w' : World} {v : Value}
end

/-! Rx -/
set_option linter.unusedSimpArgs false

def rowF (f : Nat → List Value) : Nat → Nat → List Value
  | _, 0 => []
  | i, n + 1 => f i ++ rowF f (i + 1) n
/-- The cells of an array of n elements. -/
def rowL {α : Type} (e : α → List Value) (d : α) (n : Nat) (xs : List α) : List Value := rowF (fun i => e (xs.getD i d)) 0 n
def eB (b : UInt8) : List Value := [.int .u8 (b.toNat : Int)]
def eI (x : Int) : List Value := [.int .i64 x]
def eN (x : Nat) : List Value := [.int .i64 (x : Int)]
def eW (x : Nat) : List Value := [.int .u64 (x : Int)]
abbrev rB (n : Nat) (xs : List UInt8) : List Value := rowL eB 0 n xs
abbrev rI (n : Nat) (xs : List Int) : List Value := rowL eI 0 n xs
abbrev rN (n : Nat) (xs : List Nat) : List Value := rowL eN 0 n xs
abbrev rW (n : Nat) (xs : List Nat) : List Value := rowL eW 0 n xs
section
variable {α : Type} {e : α → List Value} {d : α} {n : Nat} {xs ys : List α}
theorem rowF_len {f : Nat → List Value} {k : Nat} (h : ∀ i, (f i).length = k) : ∀ n i, (rowF f i n).length = n * k
  | 0, _ => by simp [rowF]
  | n + 1, i => by rw [rowF, List.length_append, h, rowF_len h n, Nat.succ_mul, Nat.add_comm]
theorem rowF_part {f : Nat → List Value} {k : Nat} (h : ∀ i, (f i).length = k) : ∀ n i j, j < n → ((rowF f i n).drop (j * k)).take k = f (i + j)
  | 0, _, _, hj => by omega
  | n + 1, i, 0, _ => by rw [rowF, Nat.zero_mul, List.drop_zero, List.take_append_of_le_length (by rw [h]; exact Nat.le_refl _), List.take_of_length_le (by rw [h]; exact Nat.le_refl _)]; rfl
  | n + 1, i, j + 1, hj => by
    rw [rowF, show (j + 1) * k = k + j * k by rw [Nat.succ_mul, Nat.add_comm], ← List.drop_drop, List.drop_left' (h i), rowF_part h n (i + 1) j (by omega), show i + 1 + j = i + (j + 1) by omega]
theorem rowL_len {k : Nat} (h : ∀ x, (e x).length = k) : (rowL e d n xs).length = n * k := rowF_len (fun _ => h _) _ _
theorem rowL_part {k j : Nat} (h : ∀ x, (e x).length = k) (hj : j < n) : ((rowL e d n xs).drop (j * k)).take k = e (xs.getD j d) := by
  unfold rowL
  rw [rowF_part (fun _ => h _) _ _ _ hj, Nat.zero_add]
theorem rowF_get {g : Nat → Value} : ∀ n i j, j < n → (rowF (fun i => [g i]) i n)[j]? = some (g (i + j))
  | 0, _, _, hj => by omega
  | n + 1, i, 0, _ => by rw [rowF]; rfl
  | n + 1, i, j + 1, hj => by
    rw [rowF, List.singleton_append, List.getElem?_cons_succ, rowF_get n (i + 1) j (by omega), show i + 1 + j = i + (j + 1) by omega]
theorem rowF_map {g : Nat → Value} : ∀ n i, rowF (fun i => [g i]) i n = (List.range' i n).map g
  | 0, _ => rfl
  | n + 1, i => by rw [rowF, rowF_map n, List.range'_succ, List.map_cons]; rfl
theorem rowL_map {g : α → Value} (h : xs.length = n) : rowL (fun x => [g x]) d n xs = xs.map g := by
  unfold rowL
  rw [rowF_map]
  apply List.ext_getElem?
  intro i
  rw [List.getElem?_map, List.getElem?_map]
  rcases Nat.lt_or_ge i n with hi | hi
  · rw [List.getElem?_range' hi, Nat.zero_add, Nat.one_mul, List.getElem?_eq_getElem (by omega), Option.map_some, Option.map_some, List.getD_eq_getElem?_getD, List.getElem?_eq_getElem (by omega)]
    rfl
  · rw [List.getElem?_eq_none (by rw [List.length_range']; exact hi), List.getElem?_eq_none (by omega)]
    rfl
theorem rowL_set {g : α → Value} {j : Nat} {u : α} (h : xs.length = n) : (rowL (fun x => [g x]) d n xs).set j (g u) = rowL (fun x => [g x]) d n (xs.set j u) := by
  rw [rowL_map h, rowL_map (by rw [List.length_set]; exact h), List.map_set]
end
theorem rB_get {n j : Nat} {xs : List UInt8} (h : j < n) : ((rB n xs).toArray)[j]? = some (.int .u8 ((xs.getD j 0).toNat : Int)) := by
  rw [List.getElem?_toArray]
  exact (rowF_get n 0 j h).trans (by rw [Nat.zero_add])
theorem rW_get {n j : Nat} {xs : List Nat} (h : j < n) : ((rW n xs).toArray)[j]? = some (.int .u64 ((xs.getD j 0 : Nat) : Int)) := by
  rw [List.getElem?_toArray]
  exact (rowF_get n 0 j h).trans (by rw [Nat.zero_add])
theorem rN_get {n j : Nat} {xs : List Nat} (h : j < n) : ((rN n xs).toArray)[j]? = some (.int .i64 ((xs.getD j 0 : Nat) : Int)) := by
  rw [List.getElem?_toArray]
  exact (rowF_get n 0 j h).trans (by rw [Nat.zero_add])
theorem rI_get {n j : Nat} {xs : List Int} (h : j < n) : ((rI n xs).toArray)[j]? = some (.int .i64 (xs.getD j 0)) := by
  rw [List.getElem?_toArray]
  exact (rowF_get n 0 j h).trans (by rw [Nat.zero_add])
theorem rB_set {n j : Nat} {xs : List UInt8} {u : UInt8} (h : xs.length = n) : ((rB n xs).toArray).setIfInBounds j (.int .u8 (u.toNat : Int)) = (rB n (xs.set j u)).toArray := by
  rw [List.setIfInBounds_toArray]
  exact congrArg _ (rowL_set (g := fun b : UInt8 => Value.int .u8 (b.toNat : Int)) h)
theorem rW_set {n j : Nat} {xs : List Nat} {u : Nat} (h : xs.length = n) : ((rW n xs).toArray).setIfInBounds j (.int .u64 (u : Int)) = (rW n (xs.set j u)).toArray := by
  rw [List.setIfInBounds_toArray]
  exact congrArg _ (rowL_set (g := fun b : Nat => Value.int .u64 (b : Int)) h)
theorem rN_set {n j : Nat} {xs : List Nat} {u : Nat} (h : xs.length = n) : ((rN n xs).toArray).setIfInBounds j (.int .i64 (u : Int)) = (rN n (xs.set j u)).toArray := by
  rw [List.setIfInBounds_toArray]
  exact congrArg _ (rowL_set (g := fun b : Nat => Value.int .i64 (b : Int)) h)
theorem rI_set {n j : Nat} {xs : List Int} {u : Int} (h : xs.length = n) : ((rI n xs).toArray).setIfInBounds j (.int .i64 u) = (rI n (xs.set j u)).toArray := by
  rw [List.setIfInBounds_toArray]
  exact congrArg _ (rowL_set (g := fun b : Int => Value.int .i64 b) h)
theorem rB_raw {n : Nat} {xs : List UInt8} (h : xs.length = n) : (rB n xs).toArray = rawV xs := by
  rw [rawV_bV]
  exact congrArg _ (rowL_map (g := fun b : UInt8 => Value.int .u8 (b.toNat : Int)) h)
theorem rB_bV {n : Nat} {xs : List UInt8} (h : xs.length = n) : rB n xs = bV xs := rowL_map (g := fun b : UInt8 => Value.int .u8 (b.toNat : Int)) h
/-! Equality of flat values. -/
def eqC : Value → Value → Bool
  | .int _ a, .int _ b => a == b
  | .bool a, .bool b => a == b
  | _, _ => false
def eqCells : List Value → List Value → Bool
  | a :: x, b :: y => eqC a b && eqCells x y
  | _, _ => true
def ckOk : Option IntKind → Value → Bool
  | none, .bool _ => true
  | some k, .int k' _ => decide (k = k')
  | _, _ => false
def fitB : List (Option IntKind) → List Value → Bool
  | [], [] => true
  | k :: ks, v :: vs => ckOk k v && fitB ks vs
  | _, _ => false
def kindsF (P : Program) (kt : TypeId → Option (List (Option IntKind))) : List Field → Nat → Option (List (Option IntKind))
  | [], _ => some []
  | f :: fs, off => if f.name = "_" ∨ f.offset ≠ off then none else
    match kt f.type, (P.info? f.type).map (·.size) with
    | some a, some n => if n = a.length then (kindsF P kt fs (off + a.length)).map (a ++ ·) else none
    | _, _ => none
def kindsT (P : Program) : Nat → TypeId → Option (List (Option IntKind))
  | 0, _ => none
  | d + 1, T => match P.underlying T with
    | some .bool => some [none]
    | some (.int k) => some [some k]
    | some (.struct fs) => if P.stoodInHeld T then none else kindsF P (kindsT P d) fs.toList 0
    | some (.array n e) => match kindsT P d e, (P.info? e).map (·.size) with
      | some ks, some m => if m = ks.length then some (List.replicate n ks).flatten else none
      | _, _ => none
    | _ => none
theorem fitB_len : ∀ {ks : List (Option IntKind)} {xs : List Value}, fitB ks xs = true → xs.length = ks.length
  | [], [], _ => rfl
  | _ :: ks, _ :: xs, h => by
    simp only [fitB, Bool.and_eq_true] at h
    rw [List.length_cons, List.length_cons, fitB_len h.2]
  | [], _ :: _, h => by simp [fitB] at h
  | _ :: _, [], h => by simp [fitB] at h
theorem fitB_split : ∀ {a b : List (Option IntKind)} {xs : List Value}, fitB (a ++ b) xs = true → fitB a (xs.take a.length) = true ∧ fitB b (xs.drop a.length) = true
  | [], b, xs, h => ⟨by simp [fitB], by simpa using h⟩
  | k :: a, b, [], h => by simp [fitB] at h
  | k :: a, b, x :: xs, h => by
    simp only [List.cons_append, fitB, Bool.and_eq_true] at h
    obtain ⟨h1, h2⟩ := fitB_split h.2
    exact ⟨by simp only [List.length_cons, List.take_succ_cons, fitB, Bool.and_eq_true]; exact ⟨h.1, h1⟩, by simpa using h2⟩
theorem eqCells_split : ∀ (k : Nat) (xs ys : List Value), xs.length = ys.length → eqCells xs ys = (eqCells (xs.take k) (ys.take k) && eqCells (xs.drop k) (ys.drop k))
  | 0, xs, ys, _ => by simp [eqCells]
  | k + 1, [], [], _ => by simp [eqCells]
  | k + 1, x :: xs, y :: ys, h => by
    simp only [List.take_succ_cons, List.drop_succ_cons, eqCells]
    rw [eqCells_split k xs ys (by simpa using h), Bool.and_assoc]
  | k + 1, [], _ :: _, h => by simp at h
  | k + 1, _ :: _, [], h => by simp at h
theorem eqCells_map {α : Type} [DecidableEq α] {g : α → Value} (hg : ∀ x y, eqC (g x) (g y) = decide (x = y)) : ∀ {xs ys : List α}, xs.length = ys.length → eqCells (xs.map g) (ys.map g) = decide (xs = ys)
  | [], [], _ => rfl
  | x :: xs, y :: ys, h => by
    rw [List.map_cons, List.map_cons, eqCells, hg, eqCells_map hg (by simpa using h)]
    simp [Bool.decide_and]
  | [], _ :: _, h => by simp at h
  | _ :: _, [], h => by simp at h
theorem eqC_u8 (x y : UInt8) : eqC (.int .u8 (x.toNat : Int)) (.int .u8 (y.toNat : Int)) = decide (x = y) := by
  show ((x.toNat : Int) == (y.toNat : Int)) = _
  rw [Bool.eq_iff_iff]
  simp only [beq_iff_eq, decide_eq_true_eq, Int.natCast_inj]
  exact UInt8.toNat_inj
theorem eqc_rB {n : Nat} {xs ys : List UInt8} (hx : xs.length = n) (hy : ys.length = n) : eqCells (rB n xs) (rB n ys) = decide (xs = ys) := by
  rw [rB_bV hx, rB_bV hy]
  exact eqCells_map eqC_u8 (hx.trans hy.symm)
/-- A value of a type, by its cells. -/
def asV (P : Program) (T : TypeId) (l : List Value) : Value := if aggB P T then .agg l.toArray else l.headD undef
section
variable {P : Program}
theorem isAgg_aggB {T : TypeId} {t : TypeDesc} (h : P.underlying T = some t) (w : World) : (isAgg T).run P w = .ok (aggB P T) w := by
  unfold aggB
  rw [h]
  cases t <;> simp [isAgg, run_underlying h, Sem.run_bind]
theorem part_asV {T : TypeId} {t : TypeDesc} {n off : Nat} {xs : Array Value} (h : P.underlying T = some t) (hs : (P.info? T).map (·.size) = some n) (hn : aggB P T = false → n = 1) (hl : off + n ≤ xs.size) (w : World) : (part T xs off).run P w = .ok (asV P T ((xs.toList.drop off).take n)) w := by
  obtain ⟨i, hi⟩ : ∃ i, P.info? T = some i := by cases h : P.info? T <;> simp_all
  have hz : i.size = n := by simpa [hi] using hs
  unfold asV
  cases ha : aggB P T with
  | true =>
    have h1 := isAgg_aggB h w
    rw [ha] at h1
    have e : xs.extract off (off + n) = ((xs.toList.drop off).take n).toArray := by
      apply Array.toList_inj.1
      simp [Array.toList_extract, List.extract_eq_take_drop]
    simp [part, h1, Sem.run_bind, sizeOf, typeInfo, hi, hz, e]
  | false =>
    have h1 := isAgg_aggB h w
    rw [ha] at h1
    obtain rfl := hn ha
    have hlt : off < xs.size := by omega
    have e : (xs.toList.drop off).take 1 = [xs[off]] := by
      rw [List.drop_eq_getElem_cons (by simpa using hlt)]
      simp
    rw [e]
    simp [part, h1, Sem.run_bind, hlt]
theorem kinds_one {d : Nat} {T : TypeId} {ks : List (Option IntKind)} (h : kindsT P d T = some ks) : (∃ t, P.underlying T = some t) ∧ (aggB P T = false → ks.length = 1) := by
  cases d with
  | zero => cases h
  | succ d =>
    unfold kindsT at h
    unfold aggB
    cases hu : P.underlying T with
    | none => rw [hu] at h; cases h
    | some t =>
      rw [hu] at h
      refine ⟨⟨t, rfl⟩, ?_⟩
      cases t <;> simp_all <;> (try (subst h; rfl))
theorem run_eqT : ∀ (d : Nat) (T : TypeId) (ks : List (Option IntKind)) (j : Nat) (xs ys : List Value) (w : World), kindsT P d T = some ks → fitB ks xs = true → fitB ks ys = true → (Op.equalIn (d + j) T (asV P T xs) (asV P T ys)).run P w = .ok (eqCells xs ys) w
  | 0, _, _, _, _, _, _, h, _, _ => by cases h
  | d + 1, T, ks, j, xs, ys, w, h, hx, hy => by
    have hlx := fitB_len hx
    have hly := fitB_len hy
    have one : ∀ {k : Option IntKind}, ks = [k] → ∃ a b, xs = [a] ∧ ys = [b] ∧ ckOk k a = true ∧ ckOk k b = true := by
      rintro k rfl
      match xs, ys, hlx, hly with
      | [a], [b], _, _ =>
        refine ⟨a, b, rfl, rfl, ?_, ?_⟩
        · simpa [fitB] using hx
        · simpa [fitB] using hy
    rw [show d + 1 + j = d + j + 1 by omega]
    unfold kindsT at h
    cases hu : P.underlying T with
    | none => rw [hu] at h; cases h
    | some t =>
      rw [hu] at h
      cases t <;> simp only [reduceCtorEq, Option.some.injEq] at h
      case bool =>
        obtain ⟨a, b, rfl, rfl, ha, hb⟩ := one h.symm
        cases a <;> simp only [ckOk, reduceCtorEq] at ha
        cases b <;> simp only [ckOk, reduceCtorEq] at hb
        rename_i a b
        have hna : aggB P T = false := by unfold aggB; rw [hu]
        simp only [asV, hna, Bool.false_eq_true, if_false, List.headD_cons]
        rw [run_equalIn_bool' w _ T a b hu]
        simp [eqCells, eqC]
      case int k =>
        obtain ⟨a, b, rfl, rfl, ha, hb⟩ := one h.symm
        cases a <;> simp only [ckOk, reduceCtorEq, Bool.false_eq_true, decide_eq_true_eq] at ha
        cases b <;> simp only [ckOk, reduceCtorEq, Bool.false_eq_true, decide_eq_true_eq] at hb
        subst ha
        subst hb
        rename_i a b
        have hna : aggB P T = false := by unfold aggB; rw [hu]
        simp only [asV, hna, Bool.false_eq_true, if_false, List.headD_cons]
        rw [run_equalIn_int w _ T k k a b hu]
        simp [eqCells, eqC]
      case struct fs =>
        have hag : aggB P T = true := by unfold aggB; rw [hu]
        split at h
        · cases h
        · rename_i hst
          have hff : P.fieldsOf T = fs := by unfold Program.fieldsOf; rw [hu]
          simp only [asV, hag, if_true]
          rw [run_equalIn_struct w (d + j) T _ _ (by rw [hff]; exact hu) (by simpa using hst), hff]
          have key : ∀ (l : List Field) (off : Nat) (ks' : List (Option IntKind)) (xs ys : List Value) (w : World), kindsF P (kindsT P d) l off = some ks' → fitB ks' (xs.drop off) = true → fitB ks' (ys.drop off) = true → off ≤ xs.length → off ≤ ys.length →
              (Op.eqFields (d + j) xs.toArray ys.toArray l).run P w = .ok (eqCells (xs.drop off) (ys.drop off)) w := by
            intro l
            induction l with
            | nil =>
              intro off ks' xs ys w hk h1 h2 _ _
              simp only [kindsF, Option.some.injEq] at hk
              subst hk
              have e1 := fitB_len h1
              have e2 := fitB_len h2
              rw [List.length_nil, List.length_eq_zero_iff] at e1 e2
              rw [e1, e2]
              rfl
            | cons f l ih =>
              intro off ks' xs ys w hk h1 h2 hox hoy
              simp only [kindsF] at hk
              split at hk
              · cases hk
              · rename_i hn
                rw [not_or, Classical.not_not] at hn
                obtain ⟨hn, rfl⟩ := hn
                split at hk
                · rename_i a n ha hs
                  split at hk
                  · rename_i hna
                    subst hna
                    cases hr : kindsF P (kindsT P d) l (f.offset + a.length) with
                    | none => rw [hr] at hk; cases hk
                    | some b =>
                      rw [hr] at hk
                      simp only [Option.map_some, Option.some.injEq] at hk
                      subst hk
                      obtain ⟨p1, p2⟩ := fitB_split h1
                      obtain ⟨q1, q2⟩ := fitB_split h2
                      have l1 := fitB_len h1
                      have l2 := fitB_len h2
                      rw [List.length_append, List.length_drop] at l1 l2
                      obtain ⟨⟨t, ht⟩, ho⟩ := kinds_one ha
                      rw [List.drop_drop] at p2 q2
                      have r1 := part_asV (xs := xs.toArray) (off := f.offset) ht hs ho (by simp; omega) w
                      have r2 := part_asV (xs := ys.toArray) (off := f.offset) ht hs ho (by simp; omega) w
                      have r3 := run_eqT d f.type a j _ _ w ha p1 q1
                      have r4 := ih (f.offset + a.length) b xs ys w hr p2 q2 (by omega) (by omega)
                      rw [eqCells_split a.length (xs.drop f.offset) (ys.drop f.offset) (by rw [List.length_drop, List.length_drop]; omega), List.drop_drop, List.drop_drop]
                      simp only [Op.eqFields, if_pos hn, Sem.run_bind, r1, r2, r3, Result.andThen_ok]
                      cases hb : eqCells ((xs.drop f.offset).take a.length) ((ys.drop f.offset).take a.length) with
                      | false => simp
                      | true => simpa using r4
                  · cases hk
                · cases hk
          have := key fs.toList 0 ks xs ys w h (by simpa using hx) (by simpa using hy) (Nat.zero_le _) (Nat.zero_le _)
          simpa using this
      case array n e =>
        have hag : aggB P T = true := by unfold aggB; rw [hu]
        simp only [asV, hag, if_true]
        split at h
        · rename_i ks1 m ha hs
          split at h
          · rename_i hm
            subst hm
            simp only [Option.some.injEq] at h
            subst h
            obtain ⟨i, hi⟩ : ∃ i, P.info? e = some i := by cases h : P.info? e <;> simp_all
            have hz : i.size = ks1.length := by simpa [hi] using hs
            have hc : P.cellsOf e = ks1.length := by
              unfold Program.cellsOf
              rw [hi]
              exact hz
            rw [run_equalIn_array w (d + j) xs.toArray ys.toArray hu hi, hc]
            obtain ⟨⟨t, ht⟩, ho⟩ := kinds_one ha
            have key : ∀ (c k : Nat) (xs ys : List Value) (w : World), fitB (List.replicate c ks1).flatten (xs.drop (k * ks1.length)) = true → fitB (List.replicate c ks1).flatten (ys.drop (k * ks1.length)) = true → k * ks1.length ≤ xs.length → k * ks1.length ≤ ys.length →
                (Op.eqItems (d + j) e ks1.length xs.toArray ys.toArray (List.range' k c)).run P w = .ok (eqCells (xs.drop (k * ks1.length)) (ys.drop (k * ks1.length))) w := by
              intro c
              induction c with
              | zero =>
                intro k xs ys w h1 h2 _ _
                have e1 := fitB_len h1
                have e2 := fitB_len h2
                simp only [List.replicate_zero, List.flatten_nil, List.length_nil, List.length_eq_zero_iff] at e1 e2
                rw [e1, e2]
                rfl
              | succ c ih =>
                intro k xs ys w h1 h2 hox hoy
                rw [List.replicate_succ, List.flatten_cons] at h1 h2
                obtain ⟨p1, p2⟩ := fitB_split h1
                obtain ⟨q1, q2⟩ := fitB_split h2
                have l1 := fitB_len h1
                have l2 := fitB_len h2
                rw [List.length_append, List.length_drop] at l1 l2
                rw [List.drop_drop, show k * ks1.length + ks1.length = (k + 1) * ks1.length by rw [Nat.succ_mul]] at p2 q2
                have hkk : (k + 1) * ks1.length = k * ks1.length + ks1.length := by rw [Nat.succ_mul]
                have r1 := part_asV (xs := xs.toArray) (off := k * ks1.length) ht hs ho (by simp; omega) w
                have r2 := part_asV (xs := ys.toArray) (off := k * ks1.length) ht hs ho (by simp; omega) w
                have r3 := run_eqT d e ks1 j _ _ w ha p1 q1
                have r4 := ih (k + 1) xs ys w p2 q2 (by omega) (by omega)
                rw [eqCells_split ks1.length (xs.drop (k * ks1.length)) (ys.drop (k * ks1.length)) (by rw [List.length_drop, List.length_drop]; omega), List.drop_drop, List.drop_drop, ← hkk, List.range'_succ]
                simp only [Op.eqItems, Sem.run_bind, r1, r2, r3, Result.andThen_ok]
                cases hb : eqCells ((xs.drop (k * ks1.length)).take ks1.length) ((ys.drop (k * ks1.length)).take ks1.length) with
                | false => simp
                | true => simpa using r4
            have := key n 0 xs ys w (by simpa using hx) (by simpa using hy) (by simp) (by simp)
            rw [List.range_eq_range']
            simpa using this
          · cases h
        · cases h
theorem bin_eqT {T : TypeId} {xs ys : List Value} {E : Bool} {x y : Operand} {w : World} (hk : (aggB P T, P.eqGuardType P.depth T, (kindsT P 8 T).map (fun ks => fitB ks xs && fitB ks ys)) = (true, false, some true)) (he : eqCells xs ys = E) : (sBin .eql T x y (.agg xs.toArray) (.agg ys.toArray)).run P w = .ok (.bool E) w := by
  have h1 : aggB P T = true := congrArg (·.1) hk
  have h2 : P.eqGuardType P.depth T = false := congrArg (·.2.1) hk
  have h3 : (kindsT P 8 T).map (fun ks => fitB ks xs && fitB ks ys) = some true := congrArg (·.2.2) hk
  cases hq : kindsT P 8 T with
  | none => rw [hq] at h3; cases h3
  | some ks =>
    rw [hq] at h3
    simp only [Option.map_some, Option.some.injEq, Bool.and_eq_true] at h3
    have := run_eqT 8 T ks 9992 xs ys w hq h3.1 h3.2
    simp only [asV, h1, if_true] at this
    unfold sBin
    simp [eqGuard, Go.binOp, Op.equal, Op.maxDepth, Sem.run_bind, h2, this, he]
theorem bin_neT {T : TypeId} {xs ys : List Value} {E : Bool} {x y : Operand} {w : World} (hk : (aggB P T, P.eqGuardType P.depth T, (kindsT P 8 T).map (fun ks => fitB ks xs && fitB ks ys)) = (true, false, some true)) (he : eqCells xs ys = E) : (sBin .neq T x y (.agg xs.toArray) (.agg ys.toArray)).run P w = .ok (.bool (!E)) w := by
  have h1 : aggB P T = true := congrArg (·.1) hk
  have h2 : P.eqGuardType P.depth T = false := congrArg (·.2.1) hk
  have h3 : (kindsT P 8 T).map (fun ks => fitB ks xs && fitB ks ys) = some true := congrArg (·.2.2) hk
  cases hq : kindsT P 8 T with
  | none => rw [hq] at h3; cases h3
  | some ks =>
    rw [hq] at h3
    simp only [Option.map_some, Option.some.injEq, Bool.and_eq_true] at h3
    have := run_eqT 8 T ks 9992 xs ys w hq h3.1 h3.2
    simp only [asV, h1, if_true] at this
    unfold sBin
    simp [eqGuard, Go.binOp, Op.equal, Op.maxDepth, Sem.run_bind, h2, this, he]
end

/-! Ry -/
set_option linter.unusedSimpArgs false

/-- The cells of a slice's elements. -/
def slF {α : Type} (e : α → List Value) (xs : List α) : List Value := xs.flatMap e
section
variable {α : Type} {e : α → List Value} {d : α} {xs ys : List α} {k n i r : Nat} {z : List Value}
theorem slF_app : slF e (xs ++ ys) = slF e xs ++ slF e ys := List.flatMap_append
theorem slF_lenk (h : ∀ x, (e x).length = k) (hn : xs.length = n) : (slF e xs).length = n * k := by
  subst hn
  unfold slF
  induction xs with
  | nil => simp
  | cons x xs ih => rw [List.flatMap_cons, List.length_append, h, ih, List.length_cons, Nat.succ_mul, Nat.add_comm]
theorem slF_one {g : α → Value} (hg : ∀ x, (g x).oneCell' = true) (xs : List α) : ∀ u ∈ slF (fun x => [g x]) xs, u.oneCell' = true := by
  intro u hu
  unfold slF at hu
  obtain ⟨x, _, hx⟩ := List.mem_flatMap.1 hu
  obtain rfl := List.mem_singleton.1 hx
  exact hg x
theorem slF_one' (he : ∀ x, ∀ u ∈ e x, u.oneCell' = true) : ∀ u ∈ slF e xs, u.oneCell' = true := by
  intro u hu
  unfold slF at hu
  obtain ⟨x, _, hx⟩ := List.mem_flatMap.1 hu
  exact he x u hx
theorem rowF_flat {f : Nat → List Value} : ∀ n i, rowF f i n = (List.range' i n).flatMap f
  | 0, _ => rfl
  | n + 1, i => by rw [rowF, rowF_flat n, List.range'_succ, List.flatMap_cons]
theorem range_getD : ∀ (xs : List α), (List.range' 0 xs.length).map (fun i => xs.getD i d) = xs := by
  intro xs
  apply List.ext_getElem?
  intro i
  rw [List.getElem?_map]
  rcases Nat.lt_or_ge i xs.length with hi | hi
  · rw [List.getElem?_range' hi, Option.map_some, List.getD_eq_getElem?_getD, Nat.zero_add, Nat.one_mul, List.getElem?_eq_getElem hi]
    rfl
  · rw [List.getElem?_eq_none (by rw [List.length_range']; exact hi), List.getElem?_eq_none hi]
    rfl
theorem rowL_sl (h : xs.length = n) : rowL e d n xs = slF e xs := by
  subst h
  unfold rowL slF
  rw [rowF_flat]
  conv => rhs; rw [← range_getD (d := d) xs]
  rw [List.flatMap_map]
theorem rL_whole (h : xs.length = n) : (((rowL e d n xs).toArray).toList.drop 0).take (slF e xs).length = slF e xs := by
  rw [List.drop_zero, rowL_sl h, List.take_length]
theorem rL_lt {j : Nat} (h : j < n) (h1 : ∀ x, (e x).length = 1 := by intro _; rfl) : j < ((rowL e d n xs).toArray).size := by
  rw [List.size_toArray, rowL_len h1, Nat.mul_one]
  exact h
theorem zwhole : ((rowZ (slF e xs) z r).toList.drop 0).take (slF e xs).length = slF e xs := rowZ_part
theorem sl_part (h : ∀ x, (e x).length = k) (hi : i < xs.length) : ((slF e xs).drop (i * k)).take k = e (xs.getD i d) := by
  rw [← rowL_sl (d := d) rfl]
  exact rowL_part h hi
theorem zpart (h : ∀ x, (e x).length = k) (hi : i < xs.length) : ((rowZ (slF e xs) z r).toList.drop (0 + i * k)).take (e (xs.getD i d)).length = e (xs.getD i d) := by
  have hl := slF_lenk h (xs := xs) rfl
  have h1 : (i + 1) * k ≤ xs.length * k := Nat.mul_le_mul_right _ hi
  rw [Nat.succ_mul] at h1
  rw [Nat.zero_add, h]
  unfold rowZ
  simp only
  rw [List.drop_append_of_le_length (by omega), List.take_append_of_le_length (by rw [List.length_drop]; omega)]
  exact sl_part h hi
theorem zcell {f : Nat} {v : Value} (h : ∀ x, (e x).length = k) (hi : i < xs.length) (hf : f < k) (hv : (e (xs.getD i d))[f]? = some v) : (rowZ (slF e xs) z r)[0 + i * k + f]? = some v := by
  have hp := zpart (z := z) (r := r) (d := d) h hi
  have h2 := congrArg (fun l => l[f]?) hp
  simp only [h, List.getElem?_take_of_lt hf, List.getElem?_drop] at h2
  rw [← Array.getElem?_toList, h2]
  exact hv
theorem sl_set {x : α} (h : ∀ x, (e x).length = k) (hi : i < xs.length) : (slF e xs).take (i * k) ++ e x ++ (slF e xs).drop (i * k + k) = slF e (xs.set i x) := by
  have hs : xs.set i x = xs.take i ++ x :: xs.drop (i + 1) := List.set_eq_take_append_cons_drop .. |>.trans (by rw [if_pos hi])
  have h0 : xs = xs.take i ++ xs.drop i := (List.take_append_drop i xs).symm
  have hd : xs.drop i = xs[i] :: xs.drop (i + 1) := List.drop_eq_getElem_cons hi
  have ht : (slF e (xs.take i)).length = i * k := slF_lenk h (by rw [List.length_take]; omega)
  rw [hs, slF_app, show slF e (x :: xs.drop (i + 1)) = e x ++ slF e (xs.drop (i + 1)) from List.flatMap_cons ..]
  have e1 : slF e xs = slF e (xs.take i) ++ (e xs[i] ++ slF e (xs.drop (i + 1))) := by
    conv => lhs; rw [h0, hd]
    rw [slF_app]
    rfl
  rw [e1, List.take_left' ht, ← List.drop_drop, List.drop_left' ht, List.drop_left' (h _), List.append_assoc]
theorem zset1 {x : α} {f : Nat} {v : Value} (h : ∀ x, (e x).length = k) (hi : i < xs.length) (hf : f < k) (hl : e x = (e (xs.getD i d)).set f v) : (rowZ (slF e xs) z r).setIfInBounds (0 + i * k + f) v = rowZ (slF e (xs.set i x)) z r := by
  have hlen := slF_lenk h (xs := xs) rfl
  have h1 : (i + 1) * k ≤ xs.length * k := Nat.mul_le_mul_right _ hi
  rw [Nat.succ_mul] at h1
  rw [Nat.zero_add]
  unfold rowZ
  rw [List.setIfInBounds_toArray, List.set_append_left _ _ (by omega), ← sl_set h hi, hl]
  congr 2
  have ht : ((slF e xs).take (i * k)).length = i * k := by rw [List.length_take]; omega
  have hp := sl_part (d := d) h hi
  conv => lhs; rw [← List.take_append_drop (i * k) (slF e xs), ← List.take_append_drop k ((slF e xs).drop (i * k)), hp, List.drop_drop]
  rw [List.set_append_right _ _ (by omega), ht, show i * k + f - i * k = f by omega, List.set_append_left _ _ (by rw [h]; exact hf), List.append_assoc]
theorem zset1_lt {f : Nat} (h : ∀ x, (e x).length = k) (hi : i < xs.length) (hf : f < k) : 0 + i * k + f < (rowZ (slF e xs) z r).size := by
  have hlen := slF_lenk h (xs := xs) rfl
  have h1 : (i + 1) * k ≤ xs.length * k := Nat.mul_le_mul_right _ hi
  rw [Nat.succ_mul] at h1
  rw [rowZ_size]
  omega
end
section
variable {P : Program} {T e : TypeId}
end
/-! Rz -/
set_option linter.unusedSimpArgs false
section
variable {α : Type} {e : α → List Value} {d : α} {xs ys : List α} {n l m N r : Nat} {z : List Value}
theorem sl_takedrop (h : ∀ x, (e x).length = 1) (hx : l + m ≤ xs.length) : ((slF e xs).drop l).take m = slF e ((xs.drop l).take m) := by
  have h1 : ∀ (l : Nat) (xs : List α), (slF e xs).drop l = slF e (xs.drop l) := by
    intro l
    induction l with
    | zero => intro xs; rfl
    | succ l ih =>
      intro xs
      cases xs with
      | nil => simp [slF]
      | cons x xs =>
        rw [List.drop_succ_cons, ← ih, show slF e (x :: xs) = e x ++ slF e xs from List.flatMap_cons .., Nat.add_comm l 1, ← List.drop_drop, List.drop_left' (h x)]
  have h2 : ∀ (m : Nat) (xs : List α), m ≤ xs.length → (slF e xs).take m = slF e (xs.take m) := by
    intro m
    induction m with
    | zero => intro xs _; rfl
    | succ m ih =>
      intro xs hm
      cases xs with
      | nil => simp at hm
      | cons x xs =>
        rw [List.take_succ_cons, show slF e (x :: xs) = e x ++ slF e xs from List.flatMap_cons .., show slF e (x :: xs.take m) = e x ++ slF e (xs.take m) from List.flatMap_cons .., ← ih xs (by simpa using hm), Nat.add_comm m 1, List.take_append, List.take_of_length_le (by rw [h]; omega), h, Nat.add_sub_cancel_left]
  rw [h1, h2 _ _ (by rw [List.length_drop]; omega)]
theorem rL_sub (h : ∀ x, (e x).length = 1) (hx : xs.length = N) (hl : l + m ≤ N) : (((rowL e d N xs).toArray).toList.drop (l * 1)).take (slF e ((xs.drop l).take m)).length = slF e ((xs.drop l).take m) := by
  rw [slF_lenk (n := m) h (by rw [List.length_take, List.length_drop]; omega), Nat.mul_one, Nat.mul_one, rowL_sl hx]
  exact sl_takedrop h (by omega)
theorem rL_subrow (h : ∀ x, (e x).length = 1) (hx : xs.length = N) (hl : l + m ≤ N) : (((rowL e d N xs).toArray).toList.drop (l * 1)).take (rowL e d m ((xs.drop l).take m)).length = rowL e d m ((xs.drop l).take m) := by
  rw [rowL_sl (n := m) (by rw [List.length_take, List.length_drop]; omega)]
  exact rL_sub h hx hl
theorem rL_subrow' (h : ∀ x, (e x).length = 1) (hx : xs.length = N) (hl : l * m + m ≤ N) : (((rowL e d N xs).toArray).toList.drop (0 + l * m)).take (rowL e d m ((xs.drop (l * m)).take m)).length = rowL e d m ((xs.drop (l * m)).take m) := by
  have := rL_subrow (l := l * m) (d := d) h hx hl
  rw [Nat.mul_one] at this
  rw [Nat.zero_add]
  exact this
theorem rL_splice {off : Nat} (h : ∀ x, (e x).length = 1) (hx : xs.length = N) (hy : ys.length = m) (hl : off + m ≤ N) : ((rowL e d N xs).toArray).toList.take off ++ slF e ys ++ ((rowL e d N xs).toArray).toList.drop (off + (slF e ys).length) = ((rowL e d N (xs.take off ++ ys ++ xs.drop (off + m))).toArray).toList := by
  show (rowL e d N xs).take off ++ slF e ys ++ (rowL e d N xs).drop (off + (slF e ys).length) = rowL e d N (xs.take off ++ ys ++ xs.drop (off + m))
  rw [rowL_sl hx, rowL_sl (n := N) (by rw [List.length_append, List.length_append, List.length_take, List.length_drop]; omega), slF_app, slF_app, slF_lenk (n := m) h hy, Nat.mul_one]
  have h1 := sl_takedrop (e := e) (xs := xs) (l := 0) (m := off) h (by omega)
  have h2 := sl_takedrop (e := e) (xs := xs) (l := off + m) (m := N - (off + m)) h (by omega)
  rw [List.drop_zero, List.drop_zero] at h1
  rw [h1]
  rw [List.take_of_length_le (by rw [List.length_drop, slF_lenk (n := N) h hx]; omega), List.take_of_length_le (by rw [List.length_drop]; omega)] at h2
  rw [h2]
end
section
variable {P : Program} {T e U : TypeId} {w : World}
theorem sl_arm {g l m s N : Nat} (hT : (P.underlying T, P.arrayLen T, sizB P (P.elem T)) = (some (.array N (P.elem T)), N, some s)) (h2 : l + m ≤ N) (h3 : l < N) : (Instr.sliceAt T (.pointer (some ⟨g, 0, none⟩)) (some (.int .i64 (l : Int))) (some (.int .i64 ((l + m : Nat) : Int))) none).run P w = .ok (.slice (some ⟨g, l * s, none⟩) m (N - l)) w := by
  have h := sl_ar (w := w) (g := g) (h := l + m) hT (by omega) h2 h3
  rwa [Nat.add_sub_cancel_left] at h
/-- A row of a row of rows. -/
theorem index_sub {α : Type} {en : α → List Value} {d : α} {xs : List α} {n m N k : Nat} (hT : (P.underlying T, (P.info? e).map (·.size), aggB P e) = (some (.array n e), some m, true)) (h : ∀ x, (en x).length = 1) (hk : k < n) (hN : n * m = N) (hx : xs.length = N) : (Instr.index T (.agg ((rowL en d N xs).toArray)) (.int .i64 (k : Int))).run P w = .ok (.agg ((rowL en d m ((xs.drop (k * m)).take m)).toArray)) w := by
  have hu : P.underlying T = some (.array n e) := congrArg (·.1) hT
  have hs : (P.info? e).map (·.size) = some m := congrArg (·.2.1) hT
  have ha : aggB P e = true := congrArg (·.2.2) hT
  obtain ⟨inf, hq⟩ : ∃ i, P.info? e = some i := by cases h : P.info? e <;> simp_all
  have hz : inf.size = m := by simpa [hq] using hs
  have hue : ∃ t, P.underlying e = some t := by
    unfold aggB at ha
    cases hq : P.underlying e with
    | none => rw [hq] at ha; cases ha
    | some t => exact ⟨t, rfl⟩
  obtain ⟨te, hte⟩ := hue
  have hb : k * m + m ≤ N := by
    have := Nat.mul_le_mul_right m (show k + 1 ≤ n from hk)
    rw [Nat.succ_mul] at this
    omega
  have hp := part_asV (xs := (rowL en d N xs).toArray) (off := k * m) hte hs (fun h => by rw [ha] at h; cases h) (by rw [List.size_toArray, rowL_len h]; omega) w
  have e1 := rL_subrow' (d := d) (l := k) (m := m) h hx hb
  rw [Nat.zero_add, rowL_len h, Nat.mul_one] at e1
  rw [e1] at hp
  unfold Instr.index
  simp [asIntOf, Sem.run_bind, run_underlying hu, sizeOf, typeInfo, hq, hz, hp, asV, ha, hk]
end
theorem eq_of_bne_false {α : Type} [BEq α] [LawfulBEq α] {a b : α} (h : (a != b) = false) : a = b := by simpa using h
theorem run_maxI {P : Program} {w : World} (ts : Array TypeId) (t : TypeId) (x y : Int) : (Builtin.max_ ts t #[.int .i64 x, .int .i64 y]).run P w = .ok (.int .i64 (max x y)) w := by
  rw [run_max_int2]
  congr 2
  split <;> omega
section
variable {P : Program} {T e : TypeId}
end
theorem rL_spliceR {α : Type} {e : α → List Value} {d : α} {xs ys : List α} {m N off : Nat} (h : ∀ x, (e x).length = 1) (hx : xs.length = N) (hy : ys.length = m) (hl : off + m ≤ N) : ((rowL e d N xs).toArray).toList.take off ++ rowL e d m ys ++ ((rowL e d N xs).toArray).toList.drop (off + (rowL e d m ys).length) = ((rowL e d N (xs.take off ++ ys ++ xs.drop (off + m))).toArray).toList := by
  rw [rowL_sl (n := m) hy]
  exact rL_splice h hx hy hl
theorem rL_le {α : Type} {e : α → List Value} {d : α} {xs ys : List α} {m N off : Nat} (h : ∀ x, (e x).length = 1) (hl : off + m ≤ N) : off + (rowL e d m ys).length ≤ ((rowL e d N xs).toArray).size := by
  rw [List.size_toArray, rowL_len h, rowL_len h, Nat.mul_one, Nat.mul_one]
  exact hl
theorem rL_one {α : Type} {g : α → Value} {d : α} {xs : List α} {n : Nat} (hg : ∀ x, (g x).oneCell' = true) (hx : xs.length = n) : ∀ u ∈ rowL (fun x => [g x]) d n xs, u.oneCell' = true := by
  rw [rowL_sl hx]
  exact slF_one hg xs

/-! Rv -/
section
variable {P : Program} {T : TypeId} {x y : Operand} {w : World}
theorem intDiv_quo {k : IntKind} {a d : Nat} (hd : 0 < d) (hw : k.wrap ((a / d : Nat) : Int) = ((a / d : Nat) : Int)) : Op.intDiv .quo k (a : Int) (d : Int) = pure (.int k ((a / d : Nat) : Int)) := by
  unfold Op.intDiv
  rw [if_neg (by omega), ← hw, Int.ofNat_tdiv]
theorem intDiv_rem {k : IntKind} {a d : Nat} (hd : 0 < d) : Op.intDiv .rem k (a : Int) (d : Int) = pure (.int k ((a % d : Nat) : Int)) := by
  unfold Op.intDiv
  rw [if_neg (by omega), Int.ofNat_tmod]
theorem bin_quo_u64 {a d : Nat} (hd : 0 < d) (ha : a < 18446744073709551616) : (sBin .quo T x y (.int .u64 (a : Int)) (.int .u64 (d : Int))).run P w = .ok (.int .u64 ((a / d : Nat) : Int)) w := by
  have h : a / d ≤ a := Nat.div_le_self a d
  have e := congrArg (fun (s : Sem Value) => s.run P w) (intDiv_quo (k := .u64) (a := a) hd (by generalize a / d = q at h ⊢; rw [IntKind.wrap_u64]; omega))
  exact e
theorem bin_rem_u64 {a d : Nat} (hd : 0 < d) : (sBin .rem T x y (.int .u64 (a : Int)) (.int .u64 (d : Int))).run P w = .ok (.int .u64 ((a % d : Nat) : Int)) w :=
  congrArg (fun (s : Sem Value) => s.run P w) (intDiv_rem (k := .u64) (a := a) hd)
theorem bin_quo_i64 {a d : Nat} (hd : 0 < d) (ha : a < 9223372036854775808) : (sBin .quo T x y (.int .i64 (a : Int)) (.int .i64 (d : Int))).run P w = .ok (.int .i64 ((a / d : Nat) : Int)) w := by
  have h : a / d ≤ a := Nat.div_le_self a d
  have e := congrArg (fun (s : Sem Value) => s.run P w) (intDiv_quo (k := .i64) (a := a) hd (by generalize a / d = q at h ⊢; rw [IntKind.wrap_i64]; omega))
  exact e
theorem bin_rem_i64 {a d : Nat} (hd : 0 < d) : (sBin .rem T x y (.int .i64 (a : Int)) (.int .i64 (d : Int))).run P w = .ok (.int .i64 ((a % d : Nat) : Int)) w :=
  congrArg (fun (s : Sem Value) => s.run P w) (intDiv_rem (k := .i64) (a := a) hd)
theorem bin_add_u64 {a b : Nat} (h : a + b < 18446744073709551616) : (sBin .add T x y (.int .u64 (a : Int)) (.int .u64 (b : Int))).run P w = .ok (.int .u64 ((a + b : Nat) : Int)) w := by
  have h1 : IntKind.u64.wrap ((a : Int) + b) = ((a + b : Nat) : Int) := by rw [IntKind.wrap_u64]; omega
  rw [← h1]; rfl
theorem cvt_u64i {S : TypeId} {a : Nat} (hS : P.underlying S = some (.int .u64)) (hT : P.underlying T = some (.int .i64)) (ha : a < 9223372036854775808) : (convert S T (.int .u64 (a : Int))).run P w = .ok (.int .i64 (a : Int)) w := by
  have h : IntKind.i64.wrap (a : Int) = (a : Int) := by rw [IntKind.wrap_i64]; omega
  simp only [convert, Sem.run_bind, run_underlying hS, run_underlying hT, Result.andThen_ok, Conv.intToInt, h, Sem.run_pure]
end

end Go.Proofs.Ytdglhppcfdpcaaa.E
