/- The anchor of the statements of layer 1. -/
import Derived.Test.YtbpfojdlmkbngabGfN
import Derived.OpenShut
namespace Go.Proofs.Ytbpfojdlmkbngab
open Go.RowKit

theorem lit_u8 {a : Int} (h : (Lit.int .u8 a).wf = true) : ∃ x : Nat, a = x ∧ x < 256 := by
  have h2 := bounds_u8 h
  obtain ⟨n, rfl⟩ := Int.eq_ofNat_of_zero_le (a := a) (by omega)
  exact ⟨n, rfl, by omega⟩

theorem anchor1_any (b : Nat) (w : World) (hF : FieldAt w b) :
    Calls Try.prog 9 #[.pointer (some ⟨b, 0, none⟩)] w fun e w' => e = .returned (.bool true) ∧ ∃ k, w' = w.drewN k := by
  have HF := Lib.hid hF
  clear hF
  have e1 : gmulN 128 2 = 29 := by decide +kernel
  have e2 : gE 8 = 29 := by decide +kernel
  have e3 : gL 29 = 8 := by decide +kernel
  go_enter Try.func9, Try.ntmps9
  go_wp2_with fail
  refine (mul_any b 128 2 128 2 rfl rfl (by omega) (by omega) w HF.out).mono ?_
  rintro e w' ⟨rfl, k, rfl⟩
  go_wp2_with fail
  refine (exp_any b 8 8 (by omega) _ (HF.out.drewN _)).mono ?_
  rintro e w' ⟨rfl, k, rfl⟩
  go_wp2_with fail
  refine (log_any b 29 29 rfl (by omega) (by omega) _ (HF.out.drewN _)).mono ?_
  rintro e w' ⟨rfl, k, rfl⟩
  go_wp2
  go_ret
  exact ⟨rfl, _, rfl⟩
end Go.Proofs.Ytbpfojdlmkbngab
