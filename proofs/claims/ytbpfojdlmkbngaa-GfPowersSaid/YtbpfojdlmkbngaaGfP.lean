/- The program's power, walked. -/
import Derived.Test.YtbpfojdlmkbngaaGfL
import Derived.Test.YtbpfojdlmkbngaaGfM2
namespace Go.Proofs.Ytbpfojdlmkbngaa
open Go.RowKit

theorem pow_le (p : Value) (a n : Int) (hn : n ≤ 0) (w : World) :
    Calls Try.prog 27 #[p, .int .u8 a, .int .i64 n] w fun e w' => e = .returned (.int .u8 1) ∧ ∃ k, w' = w.drewN k := by
  go_enter Try.func27, Try.ntmps27
  go_wp2
  go_ret
  exact ⟨rfl, 0, rfl⟩
theorem i64_mul_in (a b : Int) (h : 0 ≤ a * b) (h2 : a * b < 9223372036854775808) : IntKind.i64.wrap (a * b) = a * b := IntWalk.i64_in _ (by omega)
set_option maxRecDepth 100000 in
theorem pow_any (b : Nat) (a n : Int) (x m : Nat) (hx : a = x) (hn : n = m) (hm : 0 < m) (lx : x < 256) (w : World) (hF : FieldAt w b) :
    Calls Try.prog 27 #[.pointer (some ⟨b, 0, none⟩), .int .u8 a, .int .i64 n] w fun e w' => e = .returned (.int .u8 (gpow x m)) ∧ ∃ k, w' = w.drewN k := by
  subst hx hn
  by_cases h0 : x = 0
  · subst h0
    rw [gpow_zero_base m hm]
    go_enter Try.func27, Try.ntmps27
    go_wp2
    go_ret
    exact ⟨rfl, 0, rfl⟩
  have hr : gpow x m = gE ((gL x * (m % 255)) % 255) := by rw [gpow_gE x m h0, mul_mod_cut]
  rw [hr]
  have cx := hF.logCell x lx
  have bx := gL_lt x lx
  have g0 : ((x : Int) == 0) = false := beq_eq_false_iff_ne.2 (by omega)
  obtain ⟨l, hl⟩ : ∃ l, gL x = l := ⟨_, rfl⟩
  rw [hl] at bx cx ⊢
  obtain ⟨q, hq⟩ : ∃ q, m % 255 = q := ⟨_, rfl⟩
  have bq : q < 255 := by omega
  have hlq : l * q ≤ 254 * 254 := Nat.mul_le_mul (by omega) (by omega)
  have hw := i64_mul_in l q (by omega) (by rw [← Int.natCast_mul]; omega)
  have hmod : (l : Int) * q % 255 = ((l * q % 255 : Nat) : Int) := by rw [← Int.natCast_mul]; omega
  have HM := Lib.hid hmod
  have HF := Lib.hid hF
  have hq2 : (m : Int) % 255 = q := by omega
  have HQ := Lib.hid hq2
  rw [hq]
  clear hF hr hl hq hq2 hmod hlq
  have i0 : (0 : Int) ≤ (x : Int) := by omega
  have i1 : (x : Int) < 256 := by omega
  go_enter Try.func27, Try.ntmps27
  go_wp2_with fail
  go_quiet ((first | (go_at_call 35; exact Calls.quiet_of (cut_any _ q HQ.out _)) | (go_at_call 26; exact Calls.quiet_of (exp_any b _ (l * q % 255) HM.out _ (HF.out.drewN _)))))
  clear hw
  go_wp2
  go_ret
  exact ⟨rfl, _, rfl⟩
end Go.Proofs.Ytbpfojdlmkbngaa
