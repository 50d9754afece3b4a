/- Quotients: walks, of the program's and of the reference's. -/
import Derived.Test.YtdgflbbffimpkaaGfL
import Derived.Test.YtdgflbbffimpkaaGfR
namespace Go.Proofs.Ytdgflbbffimpkaa
open Go.RowKit

theorem i64_dif (a b : Int) (h0 : -9223372036854775808 ≤ a - b) (h1 : a - b < 9223372036854775808) : IntKind.i64.wrap (a - b) = a - b := IntWalk.i64_in _ (by omega)

theorem div_any (b : Nat) (a c : Int) (x y : Nat) (hx : a = x) (hy : c = y) (lx : x < 256) (ly : y < 256) (hy0 : y ≠ 0) (w : World) (hF : FieldAt w b) :
    Calls Try.prog 25 #[.pointer (some ⟨b, 0, none⟩), .int .u8 a, .int .u8 c] w fun e w' => e = .returned (.tuple #[.int .u8 (gdivN x y), .int .i64 0]) ∧ ∃ k, w' = w.drewN k := by
  subst hx hy
  have g1 : ((y : Int) == 0) = false := beq_eq_false_iff_ne.2 (by omega)
  by_cases h0 : x = 0
  · subst h0
    have hr : gdivN 0 y = 0 := rfl
    rw [hr]
    clear hr
    go_enter Try.func25, Try.ntmps25
    go_wp2
    go_ret2
    exact ⟨rfl, 0, rfl⟩
  have hr : gdivN x y = gE ((gL x + 255 - gL y) % 255) := by unfold gdivN; rw [if_neg h0]
  rw [hr]
  have cx := hF.logCell x lx
  have cy := hF.logCell y ly
  have bx := gL_lt x lx
  have bY := gL_lt y ly
  have HF := Lib.hid hF
  clear hF hr
  have g0 : ((x : Int) == 0) = false := beq_eq_false_iff_ne.2 (by omega)
  have i0 : (0 : Int) ≤ (x : Int) := by omega
  have i1 : (x : Int) < 256 := by omega
  have i2 : (0 : Int) ≤ (y : Int) := by omega
  have i3 : (y : Int) < 256 := by omega
  have hw := i64_dif (gL x) (gL y) (by omega) (by omega)
  go_enter Try.func25, Try.ntmps25
  go_wp2_with fail
  go_quiet ((go_at_call 31; exact Calls.quiet_of (exp_any b _ ((gL x + 255 - gL y) % 255) (by omega) _ (HF.out.drewN _))))
  clear hw
  go_wp2
  go_ret2
  exact ⟨rfl, _, rfl⟩
theorem div_zero (p : Value) (a : Int) (w : World) :
    Calls Try.prog 25 #[p, .int .u8 a, .int .u8 0] w fun e w' => e = .returned (.tuple #[.int .u8 0, .int .i64 16]) ∧ ∃ k, w' = w.drewN k := by
  go_enter Try.func25, Try.ntmps25
  go_wp2
  go_ret2
  exact ⟨rfl, 0, rfl⟩
theorem inv_any (b : Nat) (c : Int) (y : Nat) (hy : c = y) (ly : y < 256) (hy0 : y ≠ 0) (w : World) (hF : FieldAt w b) :
    Calls Try.prog 37 #[.pointer (some ⟨b, 0, none⟩), .int .u8 c] w fun e w' => e = .returned (.tuple #[.int .u8 (gdivN 1 y), .int .i64 0]) ∧ ∃ k, w' = w.drewN k := by
  have HF := Lib.hid hF
  have HY := Lib.hid hy
  clear hF hy
  go_enter Try.func37, Try.ntmps37
  go_wp2_with fail
  refine (div_any b 1 _ 1 y rfl HY.out (by omega) ly hy0 _ HF.out).mono ?_
  rintro e w2 ⟨rfl, k, rfl⟩
  go_wp2
  go_ret2
  exact ⟨rfl, _, rfl⟩
theorem inv_zero (p : Value) (w : World) :
    Calls Try.prog 37 #[p, .int .u8 0] w fun e w' => e = .returned (.tuple #[.int .u8 0, .int .i64 16]) ∧ ∃ k, w' = w.drewN k := by
  go_enter Try.func37, Try.ntmps37
  go_wp2_with fail
  refine (div_zero p 1 _).mono ?_
  rintro e w2 ⟨rfl, k, rfl⟩
  go_wp2
  go_ret2
  exact ⟨rfl, _, rfl⟩

end Go.Proofs.Ytdgflbbffimpkaa
