/- raw's Whose, the reference's Force: walks. -/
import Derived.Test.YtckhkagkpldoiaaRawT2
namespace Go.Proofs.Ytckhkagkpldoiaa
open Go.RowKit Go.Shelf
attribute [local go_sem] Oper.semAt_some

/-- Whose word and chip a bit is, and an error. -/
def whoseW (mode b : Int) : Nat := if 0 ≤ b ∧ b < 576 ∧ (mode = 1 ∨ mode = 2) then b.toNat / 8 / chN mode else 0
def whoseC (mode b : Int) : Nat := if 0 ≤ b ∧ b < 576 ∧ (mode = 1 ∨ mode = 2) then b.toNat / 8 % chN mode else 0
def whoseE (mode b : Int) : Nat := if 0 ≤ b ∧ b < 576 ∧ (mode = 1 ∨ mode = 2) then 0 else 12

set_option maxRecDepth 100000 in
set_option maxHeartbeats 1000000 in
theorem whose_any (mode b : Int) (v0 : -9223372036854775808 ≤ b) (v1 : b ≤ 9223372036854775807) (w : World) :
    Calls Try.prog 70 #[.int .i64 mode, .int .i64 b] w fun e w' => e = .returned (.tuple #[.int .i64 (whoseW mode b : Nat), .int .i64 (whoseC mode b : Nat), .int .i64 (whoseE mode b : Nat)]) ∧ Below w.heap.size w w' := by
  have HRI := Lib.hid (fun W => right_any mode W)
  have HCH := Lib.hid (fun W => chips_any mode W)
  by_cases hin : 0 ≤ b ∧ b < 576 ∧ (mode = 1 ∨ mode = 2)
  · have H1 := Lib.hid (show whoseW mode b = b.toNat / 8 / chN mode from if_pos hin)
    have H2 := Lib.hid (show whoseC mode b = b.toNat / 8 % chN mode from if_pos hin)
    have H3 := Lib.hid (show whoseE mode b = 0 from if_pos hin)
    obtain ⟨h0, h1, hm⟩ := hin
    obtain ⟨p, rfl⟩ := Int.eq_ofNat_of_zero_le h0
    have HM := Lib.hid hm
    rcases hm with rfl | rfl
    · rw [show chN 1 = 9 from rfl, show ((9 : Nat) : Int) = 9 from rfl] at HCH
      rw [show chN 1 = 9 from rfl] at H1 H2
      rw [show rightB 1 = true from rfl] at HRI
      refine (callsIn_wide (n := 6)).1 ?_
      refine callsIn_of_wp_marks Try.func70 rfl trivial ?_ rfl
      simp only [Try.ntmps70, List.size_toArray, List.length_cons, List.length_nil, Nat.reduceAdd, Nat.reduceSub, Array.replicate_succ, Array.replicate_zero, List.push_toArray, List.append_toArray, List.nil_append, List.cons_append]
      gi_wp2_with fail
      refine ⟨trivial, ?_⟩
      refine (callsIn_wide.2 (HRI.out _)).mono ?_
      rintro e W1 ⟨rfl, rfl⟩
      gi_wp2_with fail
      refine ⟨trivial, ?_⟩
      refine (callsIn_wide.2 (HCH.out _)).mono ?_
      rintro e W2 ⟨rfl, rfl⟩
      gi_upto_region 4 with fail
      refine wpIn_wide.2 ?_
      go_quiet (fail)
      gi_wp2
      refine leaves_own [] _ (Nat.le_of_eq rfl) (by simpa using (Own.start w.heap.size w).drewN nq) ?_
      intro W' hO
      exact ⟨.tuple #[.int .i64 ((p : Int) / 8 / 9), .int .i64 ((p : Int) / 8 % 9), .int .i64 0], by simp [results, Try.results70, go_sem], by rw [H1.out, H2.out, H3.out]; rfl, hO.done rfl⟩
    · rw [show chN 2 = 36 from rfl, show ((36 : Nat) : Int) = 36 from rfl] at HCH
      rw [show chN 2 = 36 from rfl] at H1 H2
      rw [show rightB 2 = true from rfl] at HRI
      refine (callsIn_wide (n := 6)).1 ?_
      refine callsIn_of_wp_marks Try.func70 rfl trivial ?_ rfl
      simp only [Try.ntmps70, List.size_toArray, List.length_cons, List.length_nil, Nat.reduceAdd, Nat.reduceSub, Array.replicate_succ, Array.replicate_zero, List.push_toArray, List.append_toArray, List.nil_append, List.cons_append]
      gi_wp2_with fail
      refine ⟨trivial, ?_⟩
      refine (callsIn_wide.2 (HRI.out _)).mono ?_
      rintro e W1 ⟨rfl, rfl⟩
      gi_wp2_with fail
      refine ⟨trivial, ?_⟩
      refine (callsIn_wide.2 (HCH.out _)).mono ?_
      rintro e W2 ⟨rfl, rfl⟩
      gi_upto_region 4 with fail
      refine wpIn_wide.2 ?_
      go_quiet (fail)
      gi_wp2
      refine leaves_own [] _ (Nat.le_of_eq rfl) (by simpa using (Own.start w.heap.size w).drewN nq) ?_
      intro W' hO
      exact ⟨.tuple #[.int .i64 ((p : Int) / 8 / 36), .int .i64 ((p : Int) / 8 % 36), .int .i64 0], by simp [results, Try.results70, go_sem], by rw [H1.out, H2.out, H3.out]; rfl, hO.done rfl⟩
  · have H1 := Lib.hid (show whoseW mode b = 0 from if_neg hin)
    have H2 := Lib.hid (show whoseC mode b = 0 from if_neg hin)
    have H3 := Lib.hid (show whoseE mode b = 12 from if_neg hin)
    by_cases hm : mode = 1 ∨ mode = 2
    · rw [show rightB mode = true by unfold rightB; rcases hm with rfl | rfl <;> rfl] at HRI
      by_cases h0 : 0 ≤ b
      · have h1 : 576 ≤ b := by omega
        clear hin hm HCH
        refine (callsIn_wide (n := 6)).1 ?_
        refine callsIn_of_wp_marks Try.func70 rfl trivial ?_ rfl
        simp only [Try.ntmps70, List.size_toArray, List.length_cons, List.length_nil, Nat.reduceAdd, Nat.reduceSub, Array.replicate_succ, Array.replicate_zero, List.push_toArray, List.append_toArray, List.nil_append, List.cons_append]
        gi_wp2_with fail
        refine ⟨trivial, ?_⟩
        refine (callsIn_wide.2 (HRI.out _)).mono ?_
        rintro e W1 ⟨rfl, rfl⟩
        gi_wp2
        refine leaves_own [] _ (Nat.le_of_eq rfl) (by simpa using Own.start w.heap.size w) ?_
        intro W' hO
        exact ⟨.tuple #[.int .i64 0, .int .i64 0, .int .i64 12], by simp [results, Try.results70, go_sem], by rw [H1.out, H2.out, H3.out]; rfl, hO.done rfl⟩
      · clear hin hm HCH
        refine (callsIn_wide (n := 6)).1 ?_
        refine callsIn_of_wp_marks Try.func70 rfl trivial ?_ rfl
        simp only [Try.ntmps70, List.size_toArray, List.length_cons, List.length_nil, Nat.reduceAdd, Nat.reduceSub, Array.replicate_succ, Array.replicate_zero, List.push_toArray, List.append_toArray, List.nil_append, List.cons_append]
        gi_wp2_with fail
        refine ⟨trivial, ?_⟩
        refine (callsIn_wide.2 (HRI.out _)).mono ?_
        rintro e W1 ⟨rfl, rfl⟩
        gi_wp2
        refine leaves_own [] _ (Nat.le_of_eq rfl) (by simpa using Own.start w.heap.size w) ?_
        intro W' hO
        exact ⟨.tuple #[.int .i64 0, .int .i64 0, .int .i64 12], by simp [results, Try.results70, go_sem], by rw [H1.out, H2.out, H3.out]; rfl, hO.done rfl⟩
    · rw [show rightB mode = false by unfold rightB; simp; omega] at HRI
      clear hin hm HCH
      refine (callsIn_wide (n := 6)).1 ?_
      refine callsIn_of_wp_marks Try.func70 rfl trivial ?_ rfl
      simp only [Try.ntmps70, List.size_toArray, List.length_cons, List.length_nil, Nat.reduceAdd, Nat.reduceSub, Array.replicate_succ, Array.replicate_zero, List.push_toArray, List.append_toArray, List.nil_append, List.cons_append]
      gi_wp2_with fail
      refine ⟨trivial, ?_⟩
      refine (callsIn_wide.2 (HRI.out _)).mono ?_
      rintro e W1 ⟨rfl, rfl⟩
      gi_wp2
      refine leaves_own [] _ (Nat.le_of_eq rfl) (by simpa using Own.start w.heap.size w) ?_
      intro W' hO
      exact ⟨.tuple #[.int .i64 0, .int .i64 0, .int .i64 12], by simp [results, Try.results70, go_sem], by rw [H1.out, H2.out, H3.out]; rfl, hO.done rfl⟩
end Go.Proofs.Ytckhkagkpldoiaa
