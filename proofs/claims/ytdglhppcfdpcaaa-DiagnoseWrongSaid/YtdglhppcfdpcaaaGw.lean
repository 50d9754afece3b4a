/- Arithmetic of ints, in short. No program in sight. -/
import Derived.Test.YtdglhppcfdpcaaaEj
import Derived.Test.YtdglhppcfdpcaaaGoX
import Derived.WalkKit
import Derived.Sort.CutIn
import Derived.IntWalk
import Derived.Laws.BitsAllLaws
namespace Go.Proofs.Ytdglhppcfdpcaaa.E
open Go Go.RowKit Go.Shelf
set_option linter.unusedVariables false
set_option linter.unusedSimpArgs false
theorem mask_int (x : Int) (k : Nat) (hk : k ≤ 64) : (((x % 18446744073709551616).toNat % 2 ^ k : Nat) : Int) = x % ((2 ^ k : Nat) : Int) := by
  have hd : ((2 ^ k : Nat) : Int) ∣ 18446744073709551616 := by
    have h : 2 ^ k ∣ 18446744073709551616 := (show (18446744073709551616 : Nat) = 2 ^ 64 by decide) ▸ Nat.pow_dvd_pow 2 hk
    exact Int.natCast_dvd_natCast.2 h
  rw [Int.natCast_emod, Int.toNat_of_nonneg (Int.emod_nonneg _ (by decide)), Int.emod_emod_of_dvd _ hd]
theorem bits_mask (x : Int) (k m : Nat) (hm : 2 ^ k = m) (hk : k ≤ 62) (h1 : 0 < m) (h2 : m ≤ 4611686018427387904) : bits .and .i64 x ((m - 1 : Nat) : Int) = x % (m : Int) := by
  show IntKind.i64.wrap ((BitVec.ofInt 64 x &&& BitVec.ofInt 64 ((m - 1 : Nat) : Int)).toNat : Int) = _
  have e : (BitVec.ofInt 64 ((m - 1 : Nat) : Int)).toNat = 2 ^ k - 1 := by
    rw [BitVec.ofInt_natCast, BitVec.toNat_ofNat, hm]; exact Nat.mod_eq_of_lt (by omega)
  have e2 := mask_int x k (by omega)
  rw [hm] at e2
  rw [BitVec.toNat_and, e, Nat.and_two_pow_sub_one_eq_mod, BitVec.toNat_ofInt, hm]
  rw [show (x % ((2 ^ 64 : Nat) : Int)) = x % 18446744073709551616 from rfl, e2]
  have l0 : 0 ≤ x % (m : Int) := Int.emod_nonneg _ (by omega)
  have l1 : x % (m : Int) < (m : Int) := Int.emod_lt_of_pos _ (by omega)
  exact IntWalk.i64_in _ (by omega)
theorem bin_mask_i64 {P : Program} {T : TypeId} {y z : Operand} {w : World} (x : Int) (k m : Nat) (hm : 2 ^ k = m) (hk : k ≤ 62) (h1 : 0 < m) (h2 : m ≤ 4611686018427387904) : (sBin .and T y z (.int .i64 x) (.int .i64 ((m - 1 : Nat) : Int))).run P w = .ok (.int .i64 (x % (m : Int))) w := by
  rw [← bits_mask x k m hm hk h1 h2]
  rfl
section
variable {P : Program} {T : TypeId} {x y : Operand} {w : World}
theorem bin_and_u64 {a b : Nat} (ha : a < 18446744073709551616) (hb : b < 18446744073709551616) : (sBin .and T x y (.int .u64 (a : Int)) (.int .u64 (b : Int))).run P w = .ok (.int .u64 ((a &&& b : Nat) : Int)) w := by
  rw [← u64_and_nat a b ha hb]; rfl
theorem bin_and_u32 {a b : Nat} (ha : a < 4294967296) (hb : b < 4294967296) : (sBin .and T x y (.int .u32 (a : Int)) (.int .u32 (b : Int))).run P w = .ok (.int .u32 ((a &&& b : Nat) : Int)) w := by
  rw [← u32_and_nat a b ha hb]; rfl
theorem bin_and_n8 {a b : Nat} (ha : a < 256) (hb : b < 256) : (sBin .and T x y (.int .u8 (a : Int)) (.int .u8 (b : Int))).run P w = .ok (.int .u8 ((a &&& b : Nat) : Int)) w := by
  rw [← u8_and_nat a b ha hb]; rfl
theorem bin_sub_u64 {a b : Nat} (h : b ≤ a) (ha : a < 18446744073709551616) : (sBin .sub T x y (.int .u64 (a : Int)) (.int .u64 (b : Int))).run P w = .ok (.int .u64 ((a - b : Nat) : Int)) w := by
  have h1 : IntKind.u64.wrap ((a : Int) - b) = ((a - b : Nat) : Int) := by rw [IntKind.wrap_u64]; omega
  rw [← h1]; rfl
theorem bin_sub_u32 {a b : Nat} (h : b ≤ a) (ha : a < 4294967296) : (sBin .sub T x y (.int .u32 (a : Int)) (.int .u32 (b : Int))).run P w = .ok (.int .u32 ((a - b : Nat) : Int)) w := by
  have h1 : IntKind.u32.wrap ((a : Int) - b) = ((a - b : Nat) : Int) := by rw [IntKind.wrap_u32]; omega
  rw [← h1]; rfl
theorem bin_sub_n8 {a b : Nat} (h : b ≤ a) (ha : a < 256) : (sBin .sub T x y (.int .u8 (a : Int)) (.int .u8 (b : Int))).run P w = .ok (.int .u8 ((a - b : Nat) : Int)) w := by
  have h1 : IntKind.u8.wrap ((a : Int) - b) = ((a - b : Nat) : Int) := by rw [IntKind.wrap_u8]; omega
  rw [← h1]; rfl
theorem bin_low_u64 {a : Nat} (ha : a < 18446744073709551616) : (sBin .and T x y (.int .u64 (a : Int)) (.int .u64 1)).run P w = .ok (.int .u64 ((a % 2 : Nat) : Int)) w := by
  have h := bin_and_u64 (P := P) (T := T) (x := x) (y := y) (w := w) (a := a) (b := 1) ha (by omega)
  rwa [Nat.and_one_is_mod] at h
theorem bin_low_i64 {a : Nat} : (sBin .and T x y (.int .i64 (a : Int)) (.int .i64 1)).run P w = .ok (.int .i64 ((a % 2 : Nat) : Int)) w := by
  have h := bin_mask_i64 (P := P) (T := T) (y := x) (z := y) (w := w) (a : Int) 1 2 (by decide) (by decide) (by decide) (by decide)
  exact h
end
section
variable {P : Program} {T : TypeId} {x y : Operand} {w : World}
theorem bin_shl_b8 {yk : IntKind} {a : UInt8} (n : Nat) (hn : n ≤ 8) : (sBin .shl T x y (.int .u8 (a.toNat : Int)) (.int yk (n : Int))).run P w = .ok (.int .u8 ((UInt8.ofNat (a.toNat * 2 ^ n)).toNat : Int)) w := by
  have e : IntKind.u8.wrap ((a.toNat : Int) * 2 ^ n) = ((UInt8.ofNat (a.toNat * 2 ^ n)).toNat : Int) := by
    rw [UInt8.toNat_ofNat', IntKind.wrap_u8, Int.natCast_emod, Int.natCast_mul, Int.natCast_pow]; rfl
  rw [← e]
  generalize (a.toNat : Int) = A
  unfold sBin
  simp only [Sem.run_bind, eqGuard_shl, Sem.run_pure, Result.andThen_ok, binOp_shl, shift_shl_u8 _ _ _ (Int.natCast_nonneg n) (by omega), Int.toNat_natCast]
end
theorem bin_sub_n {P : Program} {T : TypeId} {x y : Operand} {w : World} {a b : Nat} (h : b ≤ a) (ha : a ≤ 9223372036854775807) : (sBin .sub T x y (.int .i64 (a : Int)) (.int .i64 (b : Int))).run P w = .ok (.int .i64 ((a - b : Nat) : Int)) w := by
  rw [show ((a - b : Nat) : Int) = (a : Int) - (b : Int) by omega]
  exact bin_sub_in (by omega) (by omega)
/-! A row among other cells. -/
section
variable {A R R' C cs cs' : List Value} {a i : Nat} {v : Value}
theorem mid_get (e : cs = A ++ (R ++ C)) (hA : A.length = a) (h : R.toArray[i]? = some v) : cs.toArray[a + i * 1]? = some v := by
  rw [List.getElem?_toArray] at h ⊢
  rw [e, Nat.mul_one, List.getElem?_append_right (by omega), show a + i - A.length = i by omega, List.getElem?_append_left (List.getElem?_eq_some_iff.1 h).1]
  exact h
theorem mid_lt (e : cs = A ++ (R ++ C)) (hA : A.length = a) (hi : i < R.toArray.size) : a + i * 1 < cs.toArray.size := by
  rw [List.size_toArray] at hi ⊢
  rw [e, List.length_append, List.length_append]
  omega
theorem mid_set (e : cs = A ++ (R ++ C)) (e' : cs' = A ++ (R' ++ C)) (hA : A.length = a) (hi : i < R.toArray.size) (h : R.toArray.setIfInBounds i v = R'.toArray) : cs.toArray.setIfInBounds (a + i * 1) v = cs'.toArray := by
  rw [List.size_toArray] at hi
  rw [List.setIfInBounds_toArray] at h ⊢
  have h1 : R.set i v = R' := congrArg Array.toList h
  rw [e, e', Nat.mul_one, List.set_append_right _ _ (by omega), show a + i - A.length = i by omega, List.set_append_left _ _ hi, h1]
end
theorem rB_ln {n : Nat} {xs : List UInt8} : (rB n xs).length = n := (rowL_len (k := 1) fun _ => rfl).trans (Nat.mul_one n)
/-! Short hints. -/
theorem idx_arK {P : Program} {T : TypeId} {w : World} {K : IntKind} {g off k s N : Nat} (hT : (P.underlying T, P.arrayLen T, sizB P (P.elem T)) = (some (.array N (P.elem T)), N, some s)) (hk : k < N) : (Instr.indexAt T (.pointer (some ⟨g, off, none⟩)) (.int K (k : Int))).run P w = .ok (.pointer (some ⟨g, off + k * s, none⟩)) w := by
  have h2 : P.arrayLen T = N := congrArg (·.2.1) hT
  rw [run_indexAt_array w T _ K (k : Int) (by rw [h2]; exact congrArg (·.1) hT), h2, if_pos (by omega), run_sizeOf (congrArg (·.2.2) hT), Result.andThen_ok, Int.toNat_natCast, add_lit]
section
variable {P : Program} {A R R' C cs' : List Value} {a : Nat} {v : Value}
/-- A place in an array; a cell of a row among other cells, read and written; a cell of a row alone. -/
def iA (T : TypeId) (K : IntKind) (g off N s k : Nat) (hk : k < N := by omega) (hT : (P.underlying T, P.arrayLen T, sizB P (P.elem T)) = (some (.array N (P.elem T)), N, some s) := by kernel_rfl) : Pre P := .t (tv (Instr.indexAt T (.pointer (some ⟨g, off, none⟩)) (.int K (k : Int))) fun _ => idx_arK hT hk)
def rM (p g i : Nat) (t : TypeId) (cs : List Value) (e : cs = A ++ (R ++ C)) (hA : A.length = a) (h : R.toArray[i]? = some v) : Pre P := .m (lt p g (a + i * 1) cs.toArray t (mid_get e hA h))
def wM (p g i : Nat) (t : TypeId) (v : Value) (cs cs' : List Value) (e : cs = A ++ (R ++ C)) (e' : cs' = A ++ (R' ++ C)) (hA : A.length = a) (hi : i < R.toArray.size) (h : R.toArray.setIfInBounds i v = R'.toArray) : Pre P := .m (sw p g (a + i * 1) t v cs.toArray cs'.toArray (mid_set e e' hA hi h) (mid_lt e hA hi))
def rD (p g i : Nat) (t : TypeId) (R : List Value) (h : R.toArray[i]? = some v) : Pre P := .m (lt p g (0 + i * 1) R.toArray t (by rw [Nat.zero_add, Nat.mul_one]; exact h))
def wD (p g i : Nat) (t : TypeId) (v : Value) (R R' : List Value) (hi : i < R.toArray.size) (h : R.toArray.setIfInBounds i v = R'.toArray) : Pre P := .m (sw p g (0 + i * 1) t v R.toArray R'.toArray (by rw [Nat.zero_add, Nat.mul_one]; exact h) (by rw [Nat.zero_add, Nat.mul_one]; exact hi))
end
/-- Slices of arrays: the whole, from l on, from l to l + m. -/
def aS {P : Program} (T : TypeId) (g N s : Nat) (h : 0 < N := by decide) (hT : (P.underlying T, P.arrayLen T, sizB P (P.elem T)) = (some (.array N (P.elem T)), N, some s) := by kernel_rfl) : Pre P := .t (tv (Instr.sliceAt T (.pointer (some ⟨g, 0, none⟩)) none none none) fun _ => sl_ara hT h)
def aL {P : Program} (T : TypeId) (g N s l : Nat) (h : l < N := by omega) (hT : (P.underlying T, P.arrayLen T, sizB P (P.elem T)) = (some (.array N (P.elem T)), N, some s) := by kernel_rfl) : Pre P := .t (tv (Instr.sliceAt T (.pointer (some ⟨g, 0, none⟩)) (some (.int .i64 (l : Int))) none none) fun _ => sl_arl hT h)
def aM {P : Program} (T : TypeId) (g N s l m : Nat) (h : l + m ≤ N := by omega) (h1 : l < N := by omega) (hT : (P.underlying T, P.arrayLen T, sizB P (P.elem T)) = (some (.array N (P.elem T)), N, some s) := by kernel_rfl) : Pre P := .t (tv (Instr.sliceAt T (.pointer (some ⟨g, 0, none⟩)) (some (.int .i64 (l : Int))) (some (.int .i64 ((l + m : Nat) : Int))) none) fun _ => sl_arm hT h h1)
end Go.Proofs.Ytdglhppcfdpcaaa.E
