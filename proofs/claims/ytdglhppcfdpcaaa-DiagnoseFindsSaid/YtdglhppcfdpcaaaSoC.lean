/- Rotations, insertions: of ints. -/
import Derived.Test.YtdglhppcfdpcaaaSoB
import Derived.WalkKit
import Derived.Sort.CutIn
import Derived.IntWalk
namespace Go.Proofs.Ytdglhppcfdpcaaa.E
open Go Go.RowKit Go.Shelf
attribute [local go_sem] Oper.semAt_some
set_option linter.unusedVariables false
set_option linter.unusedSimpArgs false

theorem bin_sub_n {P : Program} {T : TypeId} {x y : Operand} {w : World} {a b : Nat} (h : b ≤ a) (ha : a ≤ 9223372036854775807) : (sBin .sub T x y (.int .i64 (a : Int)) (.int .i64 (b : Int))).run P w = .ok (.int .i64 ((a - b : Nat) : Int)) w := by
  rw [show ((a - b : Nat) : Int) = (a : Int) - (b : Int) by omega]
  exact bin_sub_in (by omega) (by omega)
/-- A rotation's rounds. -/
def rotS {α : Type} (d : α) (m : Nat) (xs : List α) (i j : Nat) : Nat → List α × Nat × Nat
  | 0 => (xs, i, j)
  | t + 1 => bif decide ((rotS d m xs i j t).2.2 < (rotS d m xs i j t).2.1) then (So.swR d (rotS d m xs i j t).1 (m - (rotS d m xs i j t).2.1) m (rotS d m xs i j t).2.2, (rotS d m xs i j t).2.1 - (rotS d m xs i j t).2.2, (rotS d m xs i j t).2.2) else (So.swR d (rotS d m xs i j t).1 (m - (rotS d m xs i j t).2.1) (m + (rotS d m xs i j t).2.2 - (rotS d m xs i j t).2.1) (rotS d m xs i j t).2.1, (rotS d m xs i j t).2.1, (rotS d m xs i j t).2.2 - (rotS d m xs i j t).2.1)
structure RotI {α : Type} (m : Nat) (xs : List α) (a b t : Nat) (s : List α × Nat × Nat) : Prop where
  i1 : 1 ≤ s.2.1
  j1 : 1 ≤ s.2.2
  im : s.2.1 ≤ m
  jb : m + s.2.2 ≤ b
  le : s.1.length = xs.length
  tm : t + s.2.1 + s.2.2 ≤ b - a
  eq : So.rotL s.1 (m - s.2.1) m (m + s.2.2) = So.rotL xs a m b
theorem rotS_gt {α : Type} {d : α} {m : Nat} {xs : List α} {i j t : Nat} (hg : (rotS d m xs i j t).2.2 < (rotS d m xs i j t).2.1) : rotS d m xs i j (t + 1) = (So.swR d (rotS d m xs i j t).1 (m - (rotS d m xs i j t).2.1) m (rotS d m xs i j t).2.2, (rotS d m xs i j t).2.1 - (rotS d m xs i j t).2.2, (rotS d m xs i j t).2.2) := by
  show (bif decide _ then _ else _) = _
  rw [decide_eq_true hg]; rfl
theorem rotS_le {α : Type} {d : α} {m : Nat} {xs : List α} {i j t : Nat} (hg : ¬ (rotS d m xs i j t).2.2 < (rotS d m xs i j t).2.1) : rotS d m xs i j (t + 1) = (So.swR d (rotS d m xs i j t).1 (m - (rotS d m xs i j t).2.1) (m + (rotS d m xs i j t).2.2 - (rotS d m xs i j t).2.1) (rotS d m xs i j t).2.1, (rotS d m xs i j t).2.1, (rotS d m xs i j t).2.2 - (rotS d m xs i j t).2.1) := by
  show (bif decide _ then _ else _) = _
  rw [decide_eq_false hg]; rfl
theorem RotI.gt {α : Type} {d : α} {m a b t : Nat} {xs : List α} {i j : Nat} (hb : b ≤ xs.length) (h : RotI m xs a b t (rotS d m xs i j t)) (hg : (rotS d m xs i j t).2.2 < (rotS d m xs i j t).2.1) : RotI m xs a b (t + 1) (rotS d m xs i j (t + 1)) := by
  have h1 := h.i1
  have h2 := h.j1
  have h3 := h.im
  have h4 := h.jb
  have h5 := h.le
  have h6 := h.tm
  rw [rotS_gt hg]
  refine ⟨?_, h2, ?_, h4, (So.swR_len _ _ _ _ _).trans h5, ?_, ?_⟩
  · show 1 ≤ _ - _; omega
  · show _ - _ ≤ m; omega
  · show t + 1 + ((rotS d m xs i j t).2.1 - (rotS d m xs i j t).2.2) + (rotS d m xs i j t).2.2 ≤ b - a; omega
  · exact (So.rot_gt h3 (by omega) hg).trans h.eq
theorem RotI.lt {α : Type} {d : α} {m a b t : Nat} {xs : List α} {i j : Nat} (hb : b ≤ xs.length) (h : RotI m xs a b t (rotS d m xs i j t)) (hn : (rotS d m xs i j t).2.1 ≠ (rotS d m xs i j t).2.2) (hg : ¬ (rotS d m xs i j t).2.2 < (rotS d m xs i j t).2.1) : RotI m xs a b (t + 1) (rotS d m xs i j (t + 1)) := by
  have h1 := h.i1
  have h2 := h.j1
  have h3 := h.im
  have h4 := h.jb
  have h5 := h.le
  have h6 := h.tm
  rw [rotS_le hg]
  refine ⟨h1, ?_, h3, ?_, (So.swR_len _ _ _ _ _).trans h5, ?_, ?_⟩
  · show 1 ≤ _ - _; omega
  · show m + (_ - _) ≤ b; omega
  · show t + 1 + (rotS d m xs i j t).2.1 + ((rotS d m xs i j t).2.2 - (rotS d m xs i j t).2.1) ≤ b - a; omega
  · exact (So.rot_lt h3 (by omega) (by omega)).trans h.eq
theorem rotS_t {α : Type} {d : α} {m : Nat} {xs : List α} {i j t : Nat} (hg : (rotS d m xs i j t).2.2 < (rotS d m xs i j t).2.1) : ((rotS d m xs i j (t + 1)).1 = So.swR d (rotS d m xs i j t).1 (m - (rotS d m xs i j t).2.1) m (rotS d m xs i j t).2.2) ∧ (rotS d m xs i j (t + 1)).2.1 = (rotS d m xs i j t).2.1 - (rotS d m xs i j t).2.2 ∧ (rotS d m xs i j (t + 1)).2.2 = (rotS d m xs i j t).2.2 := by
  rw [rotS_gt hg]
  exact ⟨rfl, rfl, rfl⟩
theorem rotS_f {α : Type} {d : α} {m : Nat} {xs : List α} {i j t : Nat} (hg : ¬ (rotS d m xs i j t).2.2 < (rotS d m xs i j t).2.1) : ((rotS d m xs i j (t + 1)).1 = So.swR d (rotS d m xs i j t).1 (m - (rotS d m xs i j t).2.1) (m + (rotS d m xs i j t).2.2 - (rotS d m xs i j t).2.1) (rotS d m xs i j t).2.1) ∧ (rotS d m xs i j (t + 1)).2.1 = (rotS d m xs i j t).2.1 ∧ (rotS d m xs i j (t + 1)).2.2 = (rotS d m xs i j t).2.2 - (rotS d m xs i j t).2.1 := by
  rw [rotS_le hg]
  exact ⟨rfl, rfl, rfl⟩
attribute [local irreducible] So.swR So.rotL
set_option maxRecDepth 100000 in
set_option maxHeartbeats 1000000 in
theorem sorotI (v w4 : Value) (xs : List Int) (a m b : Nat) (h1 : a < m) (h2 : m < b) (h3 : b ≤ xs.length) (h4 : xs.length ≤ 1000000) : Con Try.prog 94 #[v, .int .i64 (a : Int), .int .i64 (m : Int), .int .i64 (b : Int), w4] [slI v xs] [0] (fun _ => [slI v (So.rotL xs a m b)]) (fun _ => .tuple #[]) := by
 refine Con.of (enters_of Try.func94 (by kernel_rfl) rfl) fun w cs HS HH OW => ?_
 have HR0 : RotI m xs a b 0 (rotS (0 : Int) m xs (m - a) (b - m) 0) := ⟨by show 1 ≤ m - a; omega, by show 1 ≤ b - m; omega, by show m - a ≤ m; omega, by show m + (b - m) ≤ b; omega, rfl, by show 0 + (m - a) + (b - m) ≤ b - a; omega, by show So.rotL xs (m - (m - a)) m (m + (b - m)) = _; rw [show m - (m - a) = a by omega, show m + (b - m) = b by omega]⟩
 refine (callsIn_wide (n := 6)).1 ?_
 refine callsIn_of_wp_marks Try.func94 rfl trivial ?_ rfl
 simp only [Try.ntmps94, eF, Nat.reduceAdd, Nat.reduceSub]
 gi_upto_region 0 with fail
 refine rg (fun q1 => [.v (.int .i64 (m : Int)),
  .v (.int .i64 (a : Int)),
  .t (tb (a := .int .i64 (m : Int)) (b := .int .i64 (a : Int)) fun _ _ _ _ => bin_sub_n (a := m) (b := a) (by omega) (by omega)),
  .v (.int .i64 ((m - a : Nat) : Int))]) (fun _ L => L) OW ?_
 clear OW; intro q1 _ Wq1 OW; simp only [↓pc, ↓pn, vE, Hint.val, Act.put, eL]
 gi_upto_region 1 with fail
 refine rg (fun q2 => [.v (.int .i64 (b : Int)),
  .v (.int .i64 (m : Int)),
  .t (tb (a := .int .i64 (b : Int)) (b := .int .i64 (m : Int)) fun _ _ _ _ => bin_sub_n (a := b) (b := m) (by omega) (by omega)),
  .v (.int .i64 ((b - m : Nat) : Int))]) (fun _ L => L) OW ?_
 clear OW; intro q2 _ Wq2 OW; simp only [↓pc, ↓pn, vE, Hint.val, Act.put, eL]
 gi_wp2
 gi_loopw [10, 11] (fun z10 z11 wr => ∃ t : Nat, t ≤ b - a ∧ z10 = .int .i64 (((rotS (0 : Int) m xs (m - a) (b - m) t).2.1 : Nat) : Int) ∧ z11 = .int .i64 (((rotS (0 : Int) m xs (m - a) (b - m) t).2.2 : Nat) : Int) ∧ (RotI m xs a b t (rotS (0 : Int) m xs (m - a) (b - m) t)) ∧ OwnE (ids cs.flatten) w [slI v ((rotS (0 : Int) m xs (m - a) (b - m) t).1)] wr) (fun z10 z11 _ => ((intOf z10) + (intOf z11)).toNat)
 case atStart => exact ⟨0, by omega, rfl, rfl, HR0, (by skip; exact OwnE.cast OW.out (by kernel_rfl))⟩
 case round =>
  obtain ⟨t, hk4, rfl, rfl, hri, hO⟩ := hrel
  clear OW
  have HRI := Lib.hid hri
  clear hri
  obtain ⟨ri1, ri2, ri3, ri4, ri5, ri6, ri7⟩ := HRI.out
  have RI5 := Nat.le_of_eq ri5
  have RI6 := Nat.le_of_eq ri5.symm
  have RI7 := Lib.hid ri7
  clear ri5 ri7
  have OW := Lib.hid hO
  clear hO
  gi_upto_region 2 with fail
  refine rg (fun q5 => [.v (.int .i64 (((rotS (0 : Int) m xs (m - a) (b - m) t).2.1 : Nat) : Int)),
   .v (.int .i64 (((rotS (0 : Int) m xs (m - a) (b - m) t).2.2 : Nat) : Int)),
   .v (.bool ((((rotS (0 : Int) m xs (m - a) (b - m) t).2.1 : Nat) : Int) != (((rotS (0 : Int) m xs (m - a) (b - m) t).2.2 : Nat) : Int)))]) (fun _ L => L) OW ?_
  clear OW; intro q5 _ Wq5 OW; simp only [↓pc, ↓pn, vE, Hint.val, Act.put, eL]
  cases hB6 : ((((rotS (0 : Int) m xs (m - a) (b - m) t).2.1 : Nat) : Int) != (((rotS (0 : Int) m xs (m - a) (b - m) t).2.2 : Nat) : Int))
  case true =>
   have dhB6 := bne_iff_ne.1 hB6
   gi_upto_region 3 with fail
   refine rg (fun q7 => [.v (.int .i64 (((rotS (0 : Int) m xs (m - a) (b - m) t).2.1 : Nat) : Int)),
    .v (.int .i64 (((rotS (0 : Int) m xs (m - a) (b - m) t).2.2 : Nat) : Int)),
    .v (.bool (decide ((((rotS (0 : Int) m xs (m - a) (b - m) t).2.2 : Nat) : Int) < (((rotS (0 : Int) m xs (m - a) (b - m) t).2.1 : Nat) : Int))))]) (fun _ L => L) OW ?_
   clear OW; intro q7 _ Wq7 OW; simp only [↓pc, ↓pn, vE, Hint.val, Act.put, eL]
   cases hB8 : (decide ((((rotS (0 : Int) m xs (m - a) (b - m) t).2.2 : Nat) : Int) < (((rotS (0 : Int) m xs (m - a) (b - m) t).2.1 : Nat) : Int)))
   case true =>
    have dhB8 := of_decide_eq_true hB8
    gi_upto_region 4 with fail
    refine rg (fun q9 => [.v (v),
     .v (.int .i64 (m : Int)),
     .v (.int .i64 (((rotS (0 : Int) m xs (m - a) (b - m) t).2.1 : Nat) : Int)),
     .t (tb (a := .int .i64 (m : Int)) (b := .int .i64 (((rotS (0 : Int) m xs (m - a) (b - m) t).2.1 : Nat) : Int)) fun _ _ _ _ => bin_sub_n (a := m) (b := (rotS (0 : Int) m xs (m - a) (b - m) t).2.1) (by omega) (by omega)),
     .v (.int .i64 (m : Int)),
     .v (.int .i64 (((rotS (0 : Int) m xs (m - a) (b - m) t).2.2 : Nat) : Int)),
     .v (w4),
     .c [0] [0] (soswI v w4 ((rotS (0 : Int) m xs (m - a) (b - m) t).1) (m - ((rotS (0 : Int) m xs (m - a) (b - m) t).2.1)) m ((rotS (0 : Int) m xs (m - a) (b - m) t).2.2) (by omega) (by omega) (by omega))]) (fun q9 L => L.set 0 (slI v (So.swR 0 ((rotS (0 : Int) m xs (m - a) (b - m) t).1) (m - ((rotS (0 : Int) m xs (m - a) (b - m) t).2.1)) m ((rotS (0 : Int) m xs (m - a) (b - m) t).2.2)))) OW ?_
    clear OW; intro q9 _ Wq9 OW; simp only [↓pc, ↓pn, vE, Hint.val, Act.put, eL]
    gi_upto_region 5 with fail
    refine rg (fun q10 => [.v (.int .i64 (((rotS (0 : Int) m xs (m - a) (b - m) t).2.1 : Nat) : Int)),
     .v (.int .i64 (((rotS (0 : Int) m xs (m - a) (b - m) t).2.2 : Nat) : Int)),
     .t (tb (a := .int .i64 (((rotS (0 : Int) m xs (m - a) (b - m) t).2.1 : Nat) : Int)) (b := .int .i64 (((rotS (0 : Int) m xs (m - a) (b - m) t).2.2 : Nat) : Int)) fun _ _ _ _ => bin_sub_n (a := (rotS (0 : Int) m xs (m - a) (b - m) t).2.1) (b := (rotS (0 : Int) m xs (m - a) (b - m) t).2.2) (by omega) (by omega)),
     .v (.int .i64 ((((rotS (0 : Int) m xs (m - a) (b - m) t).2.1) - ((rotS (0 : Int) m xs (m - a) (b - m) t).2.2) : Nat) : Int))]) (fun _ L => L) OW ?_
    clear OW; intro q10 _ Wq10 OW; simp only [↓pc, ↓pn, vE, Hint.val, Act.put, eL]
    gi_wp2
    go_roundw
    case rel => exact ⟨t + 1, by omega, by first | exact congrArg (fun n : Nat => Value.int .i64 (n : Int)) (rotS_t (by omega)).2.1.symm | exact congrArg (fun n : Nat => Value.int .i64 (n : Int)) (rotS_f (by omega)).2.1.symm, by first | exact congrArg (fun n : Nat => Value.int .i64 (n : Int)) (rotS_t (by omega)).2.2.symm | exact congrArg (fun n : Nat => Value.int .i64 (n : Int)) (rotS_f (by omega)).2.2.symm, by first | exact HRI.out.gt h3 (by omega) | exact HRI.out.lt h3 (by omega) (by omega), (by (first | rw [(rotS_t (by omega)).1] | rw [(rotS_f (by omega)).1]); exact OwnE.pick OW.out [0] _ (by kernel_rfl))⟩
    case measure => (simp [intOf] <;> omega)
   have dhB8 := of_decide_eq_false hB8
   gi_upto_region 6 with fail
   refine rg (fun q11 => [.v (v),
    .v (.int .i64 (m : Int)),
    .v (.int .i64 (((rotS (0 : Int) m xs (m - a) (b - m) t).2.1 : Nat) : Int)),
    .t (tb (a := .int .i64 (m : Int)) (b := .int .i64 (((rotS (0 : Int) m xs (m - a) (b - m) t).2.1 : Nat) : Int)) fun _ _ _ _ => bin_sub_n (a := m) (b := (rotS (0 : Int) m xs (m - a) (b - m) t).2.1) (by omega) (by omega)),
    .v (.int .i64 (m : Int)),
    .v (.int .i64 (((rotS (0 : Int) m xs (m - a) (b - m) t).2.2 : Nat) : Int)),
    .t (tb (a := .int .i64 (m : Int)) (b := .int .i64 (((rotS (0 : Int) m xs (m - a) (b - m) t).2.2 : Nat) : Int)) fun _ _ _ _ => bin_add_nat (a := m) (b := (rotS (0 : Int) m xs (m - a) (b - m) t).2.2) (by omega)),
    .v (.int .i64 (((rotS (0 : Int) m xs (m - a) (b - m) t).2.1 : Nat) : Int)),
    .t (tb (a := .int .i64 ((m + ((rotS (0 : Int) m xs (m - a) (b - m) t).2.2) : Nat) : Int)) (b := .int .i64 (((rotS (0 : Int) m xs (m - a) (b - m) t).2.1 : Nat) : Int)) fun _ _ _ _ => bin_sub_n (a := m + ((rotS (0 : Int) m xs (m - a) (b - m) t).2.2)) (b := (rotS (0 : Int) m xs (m - a) (b - m) t).2.1) (by omega) (by omega)),
    .v (.int .i64 (((rotS (0 : Int) m xs (m - a) (b - m) t).2.1 : Nat) : Int)),
    .v (w4),
    .c [0] [0] (soswI v w4 ((rotS (0 : Int) m xs (m - a) (b - m) t).1) (m - ((rotS (0 : Int) m xs (m - a) (b - m) t).2.1)) ((m + ((rotS (0 : Int) m xs (m - a) (b - m) t).2.2)) - ((rotS (0 : Int) m xs (m - a) (b - m) t).2.1)) ((rotS (0 : Int) m xs (m - a) (b - m) t).2.1) (by omega) (by omega) (by omega))]) (fun q11 L => L.set 0 (slI v (So.swR 0 ((rotS (0 : Int) m xs (m - a) (b - m) t).1) (m - ((rotS (0 : Int) m xs (m - a) (b - m) t).2.1)) ((m + ((rotS (0 : Int) m xs (m - a) (b - m) t).2.2)) - ((rotS (0 : Int) m xs (m - a) (b - m) t).2.1)) ((rotS (0 : Int) m xs (m - a) (b - m) t).2.1)))) OW ?_
   clear OW; intro q11 _ Wq11 OW; simp only [↓pc, ↓pn, vE, Hint.val, Act.put, eL]
   gi_upto_region 7 with fail
   refine rg (fun q12 => [.v (.int .i64 (((rotS (0 : Int) m xs (m - a) (b - m) t).2.2 : Nat) : Int)),
    .v (.int .i64 (((rotS (0 : Int) m xs (m - a) (b - m) t).2.1 : Nat) : Int)),
    .t (tb (a := .int .i64 (((rotS (0 : Int) m xs (m - a) (b - m) t).2.2 : Nat) : Int)) (b := .int .i64 (((rotS (0 : Int) m xs (m - a) (b - m) t).2.1 : Nat) : Int)) fun _ _ _ _ => bin_sub_n (a := (rotS (0 : Int) m xs (m - a) (b - m) t).2.2) (b := (rotS (0 : Int) m xs (m - a) (b - m) t).2.1) (by omega) (by omega)),
    .v (.int .i64 ((((rotS (0 : Int) m xs (m - a) (b - m) t).2.2) - ((rotS (0 : Int) m xs (m - a) (b - m) t).2.1) : Nat) : Int))]) (fun _ L => L) OW ?_
   clear OW; intro q12 _ Wq12 OW; simp only [↓pc, ↓pn, vE, Hint.val, Act.put, eL]
   gi_wp2
   go_roundw
   case rel => exact ⟨t + 1, by omega, by first | exact congrArg (fun n : Nat => Value.int .i64 (n : Int)) (rotS_t (by omega)).2.1.symm | exact congrArg (fun n : Nat => Value.int .i64 (n : Int)) (rotS_f (by omega)).2.1.symm, by first | exact congrArg (fun n : Nat => Value.int .i64 (n : Int)) (rotS_t (by omega)).2.2.symm | exact congrArg (fun n : Nat => Value.int .i64 (n : Int)) (rotS_f (by omega)).2.2.symm, by first | exact HRI.out.gt h3 (by omega) | exact HRI.out.lt h3 (by omega) (by omega), (by (first | rw [(rotS_t (by omega)).1] | rw [(rotS_f (by omega)).1]); exact OwnE.pick OW.out [0] _ (by kernel_rfl))⟩
   case measure => (simp [intOf] <;> omega)
  have dhB6 := Lib.hid (eq_of_bne_false hB6)
  gi_upto_region 8 with fail
  have heq1 := Int.le_of_eq (eq_of_bne_false hB6)
  have heq2 := Int.le_of_eq (eq_of_bne_false hB6).symm
  refine rg (fun q13 => [.v (v),
   .v (.int .i64 (m : Int)),
   .v (.int .i64 (((rotS (0 : Int) m xs (m - a) (b - m) t).2.1 : Nat) : Int)),
   .t (tb (a := .int .i64 (m : Int)) (b := .int .i64 (((rotS (0 : Int) m xs (m - a) (b - m) t).2.1 : Nat) : Int)) fun _ _ _ _ => bin_sub_n (a := m) (b := (rotS (0 : Int) m xs (m - a) (b - m) t).2.1) (by omega) (by omega)),
   .v (.int .i64 (m : Int)),
   .v (.int .i64 (((rotS (0 : Int) m xs (m - a) (b - m) t).2.1 : Nat) : Int)),
   .v (w4),
   .c [0] [0] (soswI v w4 ((rotS (0 : Int) m xs (m - a) (b - m) t).1) (m - ((rotS (0 : Int) m xs (m - a) (b - m) t).2.1)) m ((rotS (0 : Int) m xs (m - a) (b - m) t).2.1) (by omega) (by omega) (by omega))]) (fun q13 L => L.set 0 (slI v (So.swR 0 ((rotS (0 : Int) m xs (m - a) (b - m) t).1) (m - ((rotS (0 : Int) m xs (m - a) (b - m) t).2.1)) m ((rotS (0 : Int) m xs (m - a) (b - m) t).2.1)))) OW ?_
  clear OW; intro q13 _ Wq13 OW; simp only [↓pc, ↓pn, vE, Hint.val, Act.put, eL]
  gi_wp2
  exact leafE HS HH OW [] Env.zero [0] [] rfl (by kernel_rfl) (by rw [← RI7.out, show m + (rotS (0 : Int) m xs (m - a) (b - m) t).2.2 = m + (rotS (0 : Int) m xs (m - a) (b - m) t).2.1 by omega, ← So.rot_eq (d := (0 : Int)) ri3 (by omega)]; (repeat (first | rw [hB6] | rw [cond_true] | rw [cond_false])); kernel_rfl)
end Go.Proofs.Ytdglhppcfdpcaaa.E
