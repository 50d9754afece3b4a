/- The statement DeviceBits, from its walk: the row's step. For every input; no condition. -/
import Derived.Test.YtckhkagkpldoiaaDeviceBits
import Derived.Test.YtckhkagkpldoiaaLeX
import Derived.WalkKit
import Derived.ProofKit
import Derived.OpenShut
import Derived.ShutString
import Derived.ChangeOld
import Derived.Below
namespace Go.Proofs.Ytckhkagkpldoiaa
open Go.ChangeShapes Go.WideShapes Go.ChangeAt Go.RowKit
set_option linter.unusedVariables false

theorem DeviceBits_own : ownKnob Try.prog.godebug = none := by kernel_rfl
theorem DeviceBits_laidOut : laidOutB Try.prog = true := by kernel_rfl

set_option maxRecDepth 100000 in
theorem DeviceBits_lifted (os : Os) (started : os.Started) (H : Type) (enc : TypeId × Value → H) :
    ReturnsInHanded {} Try.checked os 13 .any (Rows.deviceBitsSpec.pre6 enc Try.prog Try.f13 Rows.deviceBitsRow.domain false) (Rows.deviceBitsSpec.post enc Try.prog Try.f13 false true false false) := by
  refine returnsInHanded_of_change (C := Try.checked) DeviceBits_own started (by kernel_rfl) Try.func13
    (ChangeSpec.witness6 (enc := enc) (C := Try.checked) false ⟨#[], #[.agg #[.int .i64 0, .int .i64 0, .int .i64 0, .int .i64 0, .int .i64 0], .int .i64 0, .agg #[.int .i64 0, .int .i64 0, .int .i64 0, .int .i64 0], .agg (rawV (List.replicate 72 0)), .slice none 0 0], []⟩ 8 (by kernel_rfl) (by kernel_rfl) (by kernel_rfl) (by kernel_rfl)) ?_
  intro W base args ds gs before hval0 hW hcnd _
  have hval : ∀ (j : Nat) t v, Try.f13.params[j]? = some t → args[j]? = some v → Value.okWide Try.prog W .any base t v := hval0
  have hW' := hW
  obtain ⟨p, q, hA0, hV, rfl, hfz, hnd⟩ := hW
  have hA : DataW.TrodAll enc Try.prog W 0 (fun _ => true) true Try.f13.params.toList args.toList ds p := hA0
  rw [Try.params13] at hA hval
  obtain ⟨v0, vs0, d0, ds0, p0, q0, hargs, rfl, rfl, h0, r0⟩ := trodAll_cons hA
  obtain ⟨v1, vs1, d1, ds1, p1, q1, rfl, rfl, rfl, h1, r1⟩ := trodAll_cons r0
  obtain ⟨v2, vs2, d2, ds2, p2, q2, rfl, rfl, rfl, h2, r2⟩ := trodAll_cons r1
  obtain ⟨v3, vs3, d3, ds3, p3, q3, rfl, rfl, rfl, h3, r3⟩ := trodAll_cons r2
  obtain ⟨v4, vs4, d4, ds4, p4, q4, rfl, rfl, rfl, h4, r4⟩ := trodAll_cons r3
  obtain ⟨rfl, rfl, rfl⟩ := trodAll_nil r4
  obtain rfl : args = #[v0, v1, v2, v3, v4] := by cases args; simp_all
  obtain ⟨rfl, rfl⟩ := trodVars_none hV
  have k0 := h0
  have lt0 : ∀ x ∈ p0, x.block < W.heap.size := by obtain ⟨m, hm⟩ := k0; exact DataW.trod_lt m _ _ _ hm
  obtain ⟨cs0, rfl, hc0⟩ := open_leaves 4 (ls := List.replicate 5 (.int .i64)) (by kernel_rfl) (okWide_agg Try.underlying27 rfl (hval 0 27 v0 rfl rfl)) h0
  obtain ⟨zs0, hz0, rfl, hb0⟩ := cells_ints 5 cs0 hc0
  obtain ⟨z0, z1, z2, z3, z4, rfl⟩ := list5 hz0
  obtain ⟨mode, rfl, rfl, rfl, w1⟩ := open_int Try.underlying3 (hval 1 3 v1 rfl rfl) h1
  have k2 := h2
  have lt2 : ∀ x ∈ p2, x.block < W.heap.size := by obtain ⟨m, hm⟩ := k2; exact DataW.trod_lt m _ _ _ hm
  obtain ⟨cs2, rfl, hc2⟩ := open_leaves 4 (ls := List.replicate 4 (.int .i64)) (by kernel_rfl) (okWide_agg Try.underlying23 rfl (hval 2 23 v2 rfl rfl)) h2
  obtain ⟨zs2, hz2, rfl, hb2⟩ := cells_ints 4 cs2 hc2
  obtain ⟨u0, u1, u2, u3, rfl⟩ := list4 hz2
  have k3 := h3
  have lt3 : ∀ x ∈ p3, x.block < W.heap.size := by obtain ⟨m, hm⟩ := k3; exact DataW.trod_lt m _ _ _ hm
  obtain ⟨xs, l_xs, rfl⟩ := open_bytes (n := 72) (e := 5) Try.underlying41 Try.underlying5 (by kernel_rfl) (by kernel_rfl) (hval 3 41 v3 rfl rfl) h3
  obtain ⟨AL, nL, cL, rfl⟩ := okWide_slice Try.underlying91 (hval 4 91 v4 rfl rfl)
  have k4 := h4
  have lt4 : ∀ x ∈ p4, x.block < W.heap.size := by obtain ⟨m, hm⟩ := k4; exact DataW.trod_lt m _ _ _ hm
  obtain ⟨rows4, hl_L, hc4, hr_L, _, _⟩ := open_rows 6 (ls := E.inLs) (by kernel_rfl) (by kernel_rfl) (by decide) Try.underlying91 h4
  obtain ⟨L, rfl, hx_L⟩ := E.rows_in rows4 hc4
  have hl_L : L.length = nL := by rw [← hl_L, List.length_map]
  clear hA0 hval0
  refine (DeviceBits_any z0 z1 z2 z3 z4 mode u0 u1 u2 u3 xs l_xs AL nL cL L hl_L hx_L W hr_L).mono fun e W' ⟨he, bel⟩ => ?_
  subst he
  exact ⟨_, rfl, _, _, _, [], _, [], hW', trodAll_mk1 (shut_bool Try.underlying4 _), (trodAll_cons_mk (Below.trod DeviceBits_laidOut (by kernel_rfl) (of_decide_eq_true (by kernel_rfl)) k0 bel lt0) (trodAll_cons_mk (shut_int Try.underlying3 w1) (trodAll_cons_mk (Below.trod DeviceBits_laidOut (by kernel_rfl) (of_decide_eq_true (by kernel_rfl)) k2 bel lt2) (trodAll_cons_mk (Below.trod DeviceBits_laidOut (by kernel_rfl) (of_decide_eq_true (by kernel_rfl)) k3 bel lt3) (trodAll_cons_mk (Below.trod DeviceBits_laidOut (by kernel_rfl) (of_decide_eq_true (by kernel_rfl)) k4 bel lt4) trodAll_mk0))))), rfl, bel.frame _, fun h => by cases h⟩

/-- DeviceBits, for every input. -/
theorem DeviceBits_holds : Rows.DeviceBitsSaid :=
  OpenClaim.holds_of_wide 13 Try.f13 rfl rfl rfl rfl rfl rfl rfl ⟨rfl, rfl, rfl, rfl, rfl⟩ rfl rfl rfl rfl rfl (by kernel_rfl) Try.func13 (by kernel_rfl)
    (of_decide_eq_true (by kernel_rfl)) (by unfold Func.isWrapper; first | (rw [if_pos (by decide +kernel)]; kernel_rfl) | (rw [if_neg (by decide +kernel)]; exact ⟨rfl, rfl⟩))
    (fun os started H enc _ => DeviceBits_lifted os started H enc)
#print axioms DeviceBits_holds
end Go.Proofs.Ytckhkagkpldoiaa
