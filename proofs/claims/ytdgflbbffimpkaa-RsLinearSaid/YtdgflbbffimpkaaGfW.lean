/- What each function of the program package gf does: walks. -/
import Derived.Test.YtdgflbbffimpkaaRows
import Derived.Test.YtdgflbbffimpkaaGfM
import Derived.WalkKit
import Derived.WalkSpells
import Derived.WalkLawsBesides
import Derived.Lib.Hide
import Derived.Deep.QuietTactic
import Derived.BigQuiet
namespace Go.Proofs.Ytdgflbbffimpkaa
open Go.RowKit

theorem ret_int {k : IntKind} {a b : Int} (h : a = b) : Ending.returned (.int k a) = .returned (.int k b) := by rw [h]

def fieldCells : Array Value := (expL.map (fun x => Value.int .u8 (x : Nat)) ++ logL.map (fun x => Value.int .i64 (x : Nat))).toArray
/-- Block b holds the field, its tables laid. -/
def FieldAt (w : World) (b : Nat) : Prop := w.heap[b]? = some (.cells fieldCells 68 (0, 0))
theorem FieldAt.expCell {w : World} {b : Nat} (h : FieldAt w b) (i : Nat) (hi : i < 255) : w.cell? ⟨b, i, none⟩ = some (.int .u8 (gE i)) := by
  rw [cell_of_row w b i _ _ _ h]
  unfold fieldCells gE
  rw [List.getElem?_toArray, List.getElem?_append_left (by rw [List.length_map, expL_len]; exact hi), List.getElem?_map, List.getElem?_eq_getElem (by rw [expL_len]; exact hi), List.getD_eq_getElem?_getD, List.getElem?_eq_getElem (by rw [expL_len]; exact hi)]
  rfl
theorem FieldAt.logCell {w : World} {b : Nat} (h : FieldAt w b) (a : Nat) (ha : a < 256) : w.cell? ⟨b, 255 + a, none⟩ = some (.int .i64 (gL a)) := by
  rw [cell_of_row w b (255 + a) _ _ _ h]
  unfold fieldCells gL
  rw [List.getElem?_toArray, List.getElem?_append_right (by rw [List.length_map, expL_len]; omega), List.length_map, expL_len, Nat.add_sub_cancel_left, List.getElem?_map, List.getElem?_eq_getElem (by rw [logL_len]; exact ha), List.getD_eq_getElem?_getD, List.getElem?_eq_getElem (by rw [logL_len]; exact ha)]
  rfl
theorem FieldAt.drewN {w : World} {b : Nat} (h : FieldAt w b) (n : Nat) : FieldAt (w.drewN n) b := h

theorem i64_sum (a b : Int) (h0 : 0 ≤ a + b) (h1 : a + b < 9223372036854775808) : IntKind.i64.wrap (a + b) = a + b := IntWalk.i64_in _ (by omega)

theorem cut_any (n : Int) (m : Nat) (hm : n % 255 = m) (w : World) :
    Calls Try.prog 39 #[.int .i64 n] w fun e w' => e = .returned (.int .i64 m) ∧ ∃ k, w' = w.drewN k := by
  have H := Lib.hid hm
  clear hm
  go_enter Try.func39, Try.ntmps39
  go_wp2
  · have hlt : n.tmod 255 < 0 := by assumption
    go_ret
    refine ⟨ret_int ?_, 0, rfl⟩
    rw [← H.out]
    have := Int.tmod_eq_emod (a := n) (b := 255)
    unfold wrap64
    split at this <;> omega
  · have hlt : 0 ≤ n.tmod 255 := by assumption
    go_ret
    refine ⟨ret_int ?_, 0, rfl⟩
    rw [← H.out]
    have := Int.tmod_eq_emod (a := n) (b := 255)
    split at this <;> omega

theorem and128 : ∀ a : Nat, a < 256 → (bits .and .u8 (a : Int) 128 != 0) = a.testBit 7 := by decide +kernel
theorem xt_hi : ∀ a : Nat, a < 256 → a.testBit 7 = true → bits .xor .u8 ((a : Int) * 2 % 256) 29 = (xt a : Nat) := by decide +kernel
theorem xt_lo : ∀ a : Nat, a < 256 → a.testBit 7 = false → ((a : Int) * 2 % 256) = (xt a : Nat) := by decide +kernel

theorem twice_any (a : Nat) (ha : a < 256) (w : World) :
    Calls Try.prog 29 #[.int .u8 a] w fun e w' => e = .returned (.int .u8 (xt a)) ∧ w = w' := by
  have h1 := and128 a ha
  have H1 := Lib.hid h1
  clear h1
  go_enter Try.func29, Try.ntmps29
  go_wp2
  · have h : (bits BinOp.and IntKind.u8 (↑a) 128 != 0) = true := by assumption
    rw [H1.out] at h
    go_ret
    exact ⟨ret_int (xt_hi a ha h), rfl⟩
  · have h : (bits BinOp.and IntKind.u8 (↑a) 128 != 0) = false := by assumption
    rw [H1.out] at h
    go_ret
    exact ⟨ret_int (xt_lo a ha h), rfl⟩

theorem exp_any (b : Nat) (n : Int) (m : Nat) (hm : n % 255 = m) (w : World) (hF : FieldAt w b) :
    Calls Try.prog 31 #[.pointer (some ⟨b, 0, none⟩), .int .i64 n] w fun e w' => e = .returned (.int .u8 (gE m)) ∧ ∃ k, w' = w.drewN k := by
  have hml : m < 255 := by omega
  have hc := hF.expCell m hml
  have H := Lib.hid hm
  have HF := Lib.hid hF
  clear hm hF
  have i0 : (0 : Int) ≤ (m : Int) := by omega
  have i1 : (m : Int) < 255 := by omega
  go_enter Try.func31, Try.ntmps31
  go_wp2_with fail
  go_quiet ((go_at_call 39; exact Calls.quiet_of (cut_any n m H.out _)))
  go_wp2
  go_ret
  exact ⟨rfl, _, rfl⟩

theorem mul_any (b : Nat) (a c : Int) (x y : Nat) (hx : a = x) (hy : c = y) (lx : x < 256) (ly : y < 256) (w : World) (hF : FieldAt w b) :
    Calls Try.prog 19 #[.pointer (some ⟨b, 0, none⟩), .int .u8 a, .int .u8 c] w fun e w' => e = .returned (.int .u8 (gmulN x y)) ∧ ∃ k, w' = w.drewN k := by
  subst hx hy
  by_cases h0 : x = 0
  · subst h0
    rw [zero_gmulN]
    go_enter Try.func19, Try.ntmps19
    go_wp2
    go_ret
    exact ⟨rfl, 0, rfl⟩
  by_cases h1 : y = 0
  · subst h1
    rw [gmulN_zero]
    have g0 : ((x : Int) == 0) = false := beq_eq_false_iff_ne.2 (by omega)
    go_enter Try.func19, Try.ntmps19
    go_wp2
    go_ret
    exact ⟨rfl, 0, rfl⟩
  have hr : gmulN x y = gE ((gL x + gL y) % 255) := by unfold gmulN; rw [if_neg (by omega)]
  rw [hr]
  have cx := hF.logCell x lx
  have cy := hF.logCell y ly
  have bx := gL_lt x lx
  have bY := gL_lt y ly
  have HF := Lib.hid hF
  clear hF hr
  have g0 : ((x : Int) == 0) = false := beq_eq_false_iff_ne.2 (by omega)
  have g1 : ((y : Int) == 0) = false := beq_eq_false_iff_ne.2 (by omega)
  have i0 : (0 : Int) ≤ (x : Int) := by omega
  have i1 : (x : Int) < 256 := by omega
  have i2 : (0 : Int) ≤ (y : Int) := by omega
  have i3 : (y : Int) < 256 := by omega
  have hw := i64_sum (gL x) (gL y) (by omega) (by omega)
  go_enter Try.func19, Try.ntmps19
  go_wp2_with fail
  go_quiet ((go_at_call 31; exact Calls.quiet_of (exp_any b _ ((gL x + gL y) % 255) (by omega) _ (HF.out.drewN _))))
  clear hw
  go_wp2
  go_ret
  exact ⟨rfl, _, rfl⟩

theorem log_any (b : Nat) (a : Int) (x : Nat) (hx : a = x) (lx : x < 256) (h0 : x ≠ 0) (w : World) (hF : FieldAt w b) :
    Calls Try.prog 27 #[.pointer (some ⟨b, 0, none⟩), .int .u8 a] w fun e w' => e = .returned (.tuple #[.int .i64 (gL x), .int .i64 0]) ∧ ∃ k, w' = w.drewN k := by
  subst hx
  have cx := hF.logCell x lx
  have HF := Lib.hid hF
  clear hF
  have g0 : ((x : Int) == 0) = false := beq_eq_false_iff_ne.2 (by omega)
  go_enter Try.func27, Try.ntmps27
  go_wp2
  go_ret2
  exact ⟨rfl, 0, rfl⟩
theorem log_zero (p : Value) (w : World) :
    Calls Try.prog 27 #[p, .int .u8 0] w fun e w' => e = .returned (.tuple #[.int .i64 0, .int .i64 16]) ∧ ∃ k, w' = w.drewN k := by
  go_enter Try.func27, Try.ntmps27
  go_wp2
  go_ret2
  exact ⟨rfl, 0, rfl⟩
end Go.Proofs.Ytdgflbbffimpkaa
