/- Chips, plainly: bits that are turned, bits that are stuck. -/
import Derived.Test.YtckhkagkpldoiaaDrP
import Derived.Test.YtckhkagkpldoiaaDrM
namespace Go.Proofs.Ytckhkagkpldoiaa.E
open Go
set_option linter.unusedVariables false
def cD (D : Dr) (X : Int → List UInt8) : Dr := { D with cells := X }
def lD (D : Dr) (l : List Fa) : Dr := { D with lasts := l }
theorem xor_back (x : UInt8) (m : UInt8) : x ^^^ m ^^^ m = x := by
  apply UInt8.toBitVec_inj.1
  simp [UInt8.toBitVec_xor, BitVec.xor_assoc]
theorem flip_back {xs : List UInt8} (lx : xs.length = 72) {p : Nat} (hp : p < 576) : flipI (flipI xs (p : Int)) (p : Int) = xs := by
  have l1 : (flipI xs (p : Int)).length = 72 := by rw [flipI_length]; exact lx
  refine eq72 (by rw [flipI_length]; exact l1) lx fun i hi => ?_
  rw [flip_get l1 hp]
  by_cases h : i = p / 8
  · rw [if_pos h, flip_get lx hp, if_pos rfl, xor_back, h]
  · rw [if_neg h, flip_get lx hp, if_neg h]
section
variable {r s n m c mode u0 u1 u2 u3 b v : Int} {xs : List UInt8}
theorem hold_of (h : gindex_1 r s n m c u0 u1 u2 u3 = 0) : gholds r s n m c u0 u1 u2 u3 = true := by
  unfold gindex_1 at h
  cases hb : gholds r s n m c u0 u1 u2 u3
  · rw [hb] at h; exact absurd h (by decide)
  · rfl
theorem below_of {i n : Int} (h0 : 0 ≤ i) (h1 : i < n) : fbelow i n = true := by
  unfold fbelow
  rw [decide_eq_true h0, decide_eq_true h1]
  rfl
theorem chN_pos (hm : rightB mode = true) : (0 : Int) < ((chN mode : Nat) : Int) := by
  have hm2 : mode = 1 ∨ mode = 2 := by
    unfold rightB at hm
    simpa using hm
  unfold chN
  rcases hm2 with rfl | rfl <;> decide
theorem right_flip (hm : rightB mode = true) (h : gindex_1 r s n m c u0 u1 u2 u3 = 0) (b0 : 0 ≤ b) (b1 : b < 576) : fright 1 u0 u1 u2 u3 0 b 0 r s n m c mode = true := by
  unfold fright
  rw [hm, hold_of h, below_of b0 b1, below_of (i := 0) (by decide) (chN_pos hm)]
  rw [show ((1 : Int) == 2) = false from rfl, cond_false]
  rw [show fbelow 0 256 = true from rfl]
  simp [fbare_1, fbare_2, fbare_3, fbare_4, fbare_5, fbare_6, fbare_7]
theorem right_stuck (hm : rightB mode = true) (h : gindex_1 r s n m c u0 u1 u2 u3 = 0) (b0 : 0 ≤ b) (b1 : b < 576) (v0 : 0 ≤ v) (v1 : v < 2) : fright 2 u0 u1 u2 u3 0 b v r s n m c mode = true := by
  unfold fright
  rw [hm, hold_of h, below_of b0 b1, below_of (i := 0) (by decide) (chN_pos hm)]
  rw [show ((2 : Int) == 2) = true from rfl, cond_true]
  rw [below_of v0 v1]
  simp [fbare_1, fbare_2, fbare_3, fbare_4, fbare_5, fbare_6, fbare_7]
theorem inj_flip {D : Dr} {f : Fa} (hr : frF D f = true) (hk : f.x0 = 1) : injD D f = cD D (upI D.cells (giF D f) (flipI (D.cells (giF D f)) f.x6)) := by
  unfold injD
  rw [hr, hk]
  rfl
theorem dflips_true (lx : xs.length = 72) (hm : rightB mode = true) : dflips_0 r s n m c mode u0 u1 u2 u3 b v xs = true := by
  unfold dflips_0
  refine bif_t fun hT => ?_
  simp only [Bool.or_eq_false_iff, bne_eq_false_iff_eq, decide_eq_false_iff_not] at hT
  obtain ⟨⟨⟨⟨hi, h0⟩, h1⟩, h2⟩, h3⟩ := hT
  obtain ⟨g4, g0, g1, g2, g3⟩ := gat_of hi
  generalize hI : gindex_0 r s n m c u0 u1 u2 u3 = i at g4 g0 g1 g2 g3 ⊢
  have hrF := right_flip (b := b) hm hi (by omega) (by omega)
  have hrS := right_stuck (b := b) (v := v) hm hi (by omega) (by omega) (by omega) (by omega)
  obtain ⟨p, rfl⟩ := Int.eq_ofNat_of_zero_le (show 0 ≤ b by omega)
  have hp : p < 576 := by omega
  generalize hD : D0 r s n m c mode = D
  have e1 : wrD D i xs = cD D (upI D.cells i xs) := by rw [← hD]; exact (wr_at (D := D0 r s n m c mode) rfl g4 xs).1
  have eF : ∀ X, injD (cD D X) (⟨1, u0, u1, u2, u3, 0, (p : Int), 0⟩ : Fa) = cD D (upI X i (flipI (X i) (p : Int))) := fun X => by
    rw [inj_flip (by rw [← hD]; exact hrF) rfl]
    have : giF (cD D X) (⟨1, u0, u1, u2, u3, 0, (p : Int), 0⟩ : Fa) = i := by rw [← hD]; exact hI
    rw [this]
    rfl
  have eW : ∀ X, wrD (cD D X) i xs = cD D (upI X i xs) := fun X => by rw [← hD]; exact (wr_at (D := cD (D0 r s n m c mode) X) rfl g4 xs).1
  have eL : ∀ X, dLook_0 (cD D X) i = X i := fun X => by rw [← hD]; exact (look_at (D := cD (D0 r s n m c mode) X) g4).1
  have hS : flasts 2 u0 u1 u2 u3 0 (p : Int) v = true := rfl
  have eS : ∀ X, injD (cD D X) (⟨2, u0, u1, u2, u3, 0, (p : Int), v⟩ : Fa) = lD (cD D X) [⟨2, u0, u1, u2, u3, 0, (p : Int), v⟩] ∧ dInject_0 (cD D X) (⟨2, u0, u1, u2, u3, 0, (p : Int), v⟩ : Fa) = 0 := fun X => by
    rw [← hD]
    exact inj_last (D := cD (D0 r s n m c mode) X) hrS hS (Nat.zero_lt_succ 255)
  have eV : ∀ X l, wrD (lD (cD D X) l) i xs = lD (cD D (upI X i xs)) l := fun X l => by rw [← hD]; exact (wr_at (D := lD (cD (D0 r s n m c mode) X) l) rfl g4 xs).1
  have eM : ∀ X, dLook_0 (lD (cD D X) [⟨2, u0, u1, u2, u3, 0, (p : Int), v⟩]) i = forceI (X i) (p : Int) v := fun X => by
    rw [← hD]
    refine (look_at (D := lD (cD (D0 r s n m c mode) X) [⟨2, u0, u1, u2, u3, 0, (p : Int), v⟩]) g4).1.trans ?_
    show fapply 2 u0 u1 u2 u3 0 (p : Int) v mode (gat_0 r s n m c i) (gat_1 r s n m c i) (gat_2 r s n m c i) (gat_3 r s n m c i) (X i) = _
    rw [g0, g1, g2, g3]
    unfold fapply
    rw [hS, show flies 2 u0 u1 u2 u3 0 (p : Int) v u0 u1 u2 u3 = true by unfold flies; simp]
    rfl
  rw [e1, eF, eF, eF, eW, (eS _).1, (eS _).2, eV, eL, eL, eL, eM]
  simp only [upI_at]
  rw [flip_expo (.inl rfl) lx hp, flip_back lx hp]
  simp
end
end Go.Proofs.Ytckhkagkpldoiaa.E
namespace Go.Proofs.Ytckhkagkpldoiaa
open Go Go.RowKit Go.Shelf
theorem DramFlips_any (z0 z1 z2 z3 z4 mode u0 u1 u2 u3 y u : Int) (xs : List UInt8) (lx : xs.length = 72) (hx : -9223372036854775808 ≤ y) (hx' : y ≤ 9223372036854775807) (hy : -9223372036854775808 ≤ u) (hy' : u ≤ 9223372036854775807) (w : World) :
    Calls Try.prog 9 #[.agg #[.int .i64 z0, .int .i64 z1, .int .i64 z2, .int .i64 z3, .int .i64 z4], .int .i64 mode, .agg #[.int .i64 u0, .int .i64 u1, .int .i64 u2, .int .i64 u3], .int .i64 y, .int .i64 u, .agg (rawV xs)] w
      fun e w' => e = .returned (.bool true) ∧ Below w.heap.size w w' := by
  rw [← E.rB_raw (n := 72) (xs := xs) lx]
  cases hg : gright z0 z1 z2 z3 z4
  · exact (E.dflipsG z0 z1 z2 z3 z4 mode u0 u1 u2 u3 y u xs lx hg).below w
  cases hm : rightB mode
  · exact (E.dflipsM z0 z1 z2 z3 z4 mode u0 u1 u2 u3 y u xs lx hg hm).below w
  have h := (E.dflips z0 z1 z2 z3 z4 mode u0 u1 u2 u3 y u xs lx hx hx' hy hy' hg hm).below w
  rwa [E.dflips_true lx hm] at h
end Go.Proofs.Ytckhkagkpldoiaa
