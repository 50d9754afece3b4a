/- GfDots, walked: for every a, b, x, n, stop the law returns true. -/
import Derived.Test.YtbpfojdlmkbngabGfI
import Derived.Test.YtbpfojdlmkbngabGfS
import Derived.Test.YtbpfojdlmkbngabGfS2
namespace Go.Proofs.Ytbpfojdlmkbngab
open Go.RowKit Go.Shelf
attribute [local go_sem] Oper.semAt_some

theorem lit_i64' {a : Int} (h : (Lit.int .i64 a).wf = true) : -9223372036854775808 ≤ a ∧ a ≤ 9223372036854775807 := bounds_i64 h

set_option maxHeartbeats 2000000 in
set_option maxRecDepth 100000 in
theorem GfDots_walk (A0 : Option Addr) (n0 c0 : Nat) (z0 : List Int) (A1 : Option Addr) (n1 c1 : Nat) (z1 : List Int) (a2 a3 a4 : Int) (w : World)
    (r0 : IsRow .u8 w A0 n0 c0 z0) (r1 : IsRow .u8 w A1 n1 c1 z1) (w2 : (Lit.int .u8 a2).wf = true) (w3 : (Lit.int .i64 a3).wf = true) (w4 : (Lit.int .i64 a4).wf = true) :
    Calls Try.prog 5 #[.slice A0 n0 c0, .slice A1 n1 c1, .int .u8 a2, .int .i64 a3, .int .i64 a4] w fun e w' => e = .returned (.bool true) ∧ Below w.heap.size w w' := by
  obtain ⟨xs, hx0, hx1, hx2, hx3⟩ := r0.bytes
  obtain ⟨ys, hy0, hy1, hy2, hy3⟩ := r1.bytes
  obtain ⟨x, rfl, lx⟩ := lit_u8 w2
  obtain ⟨u0, u1⟩ := lit_i64' w3
  obtain ⟨v0, v1⟩ := lit_i64' w4
  clear r0 r1 w2 w3 w4
  unfold maxLen at hx2 hy2
  have HX := Lib.hid hx0
  have HY := Lib.hid hy0
  have RX := Lib.hid hx3
  have RY := Lib.hid hy3
  clear hx0 hy0 hx3 hy3
  by_cases hbig : 200 < n0 ∨ 200 < n1 ∨ 300 < a3
  · by_cases g0 : 200 < n0
    · refine (callsIn_wide (n := 6)).1 ?_
      refine callsIn_of_wp_marks Try.func5 rfl trivial ?_ rfl
      simp only [Try.ntmps5, List.size_toArray, List.length_cons, List.length_nil, Nat.reduceAdd, Nat.reduceSub, Array.replicate_succ, Array.replicate_zero, List.push_toArray, List.append_toArray, List.nil_append, List.cons_append]
      gi_wp2_with fail
      refine ⟨trivial, ?_⟩
      refine (callsIn_wide.2 (new_any _)).mono ?_
      rintro e w1 ⟨rfl, hw1⟩
      have F0 : Blk w1 w.heap.size 5 #[.int .u8 (x : Int)] := by rw [hw1]; exact (((Blk.new w _ _).alloc _).alloc _).alloc _
      have F1 : Blk w1 (w.heap.size + 1) 3 #[.int .i64 a4] := by rw [hw1]; have h := ((Blk.new (w.alloc (.cells #[.int .u8 (x : Int)] 5)) 3 #[.int .i64 a4]).alloc (.cells #[.bool false] 4)).alloc (.cells fieldCells 55); rw [World.size_alloc] at h; exact h
      have F2 : Blk w1 (w.heap.size + 1 + 1) 4 #[.bool false] := by rw [hw1]; have h := (Blk.new ((w.alloc (.cells #[.int .u8 (x : Int)] 5)).alloc (.cells #[.int .i64 a4] 3)) 4 #[.bool false]).alloc (.cells fieldCells 55); rw [World.size_alloc, World.size_alloc] at h; exact h
      have F3 : FieldAt w1 (w.heap.size + 1 + 1 + 1) := by rw [hw1]; have h := FieldAt.new (((w.alloc (.cells #[.int .u8 (x : Int)] 5)).alloc (.cells #[.int .i64 a4] 3)).alloc (.cells #[.bool false] 4)); rw [World.size_alloc, World.size_alloc, World.size_alloc] at h; exact h
      have FB : Below w.heap.size w w1 := by rw [hw1]; exact ((((Below.refl _ w).alloc (Nat.le_refl _) _).alloc (by simp) _).alloc (by simp; omega) _).alloc (by simp; omega) _
      have FZ : w1.heap.size = w.heap.size + 1 + 1 + 1 + 1 := by rw [hw1]; simp only [World.size_alloc]
      simp only [World.size_alloc]
      have HF := Lib.hid F3
      have HB := Lib.hid FB
      have HZ := Lib.hid FZ
      have HF0 := Lib.hid F0
      have HF1 := Lib.hid F1
      have HF2 := Lib.hid F2
      clear F3 FB hw1 FZ F0 F1 F2
      gi_wp2_with fail
      refine ⟨trivial, ?_⟩
      refine (callsIn_wide.2 (anchor1_any _ _ HF.out)).mono ?_
      rintro e w2 ⟨rfl, k, rfl⟩
      have c0 : (w1.drewN k).cell? ⟨w.heap.size, 0, none⟩ = some (.int .u8 (x : Int)) := (HF0.out.drewN k).cell 0
      have c1 : (w1.drewN k).cell? ⟨w.heap.size + 1, 0, none⟩ = some (.int .i64 a4) := (HF1.out.drewN k).cell 0
      have c2 : (w1.drewN k).cell? ⟨w.heap.size + 1 + 1, 0, none⟩ = some (.bool false) := (HF2.out.drewN k).cell 0
      have f2 : (w1.drewN k).frozen? ⟨w.heap.size + 1 + 1, 0, none⟩ = false := (HF2.out.drewN k).frozen 0
      gi_wp2
      refine ⟨_, by simp [results, Try.results5, go_sem, c2], rfl, (below_drewN HB.out k).setCell (p := ⟨w.heap.size + 1 + 1, 0, none⟩) (by simp; omega) _⟩
    · by_cases g1 : 200 < n1
      · refine (callsIn_wide (n := 6)).1 ?_
        refine callsIn_of_wp_marks Try.func5 rfl trivial ?_ rfl
        simp only [Try.ntmps5, List.size_toArray, List.length_cons, List.length_nil, Nat.reduceAdd, Nat.reduceSub, Array.replicate_succ, Array.replicate_zero, List.push_toArray, List.append_toArray, List.nil_append, List.cons_append]
        gi_wp2_with fail
        refine ⟨trivial, ?_⟩
        refine (callsIn_wide.2 (new_any _)).mono ?_
        rintro e w1 ⟨rfl, hw1⟩
        have F0 : Blk w1 w.heap.size 5 #[.int .u8 (x : Int)] := by rw [hw1]; exact (((Blk.new w _ _).alloc _).alloc _).alloc _
        have F1 : Blk w1 (w.heap.size + 1) 3 #[.int .i64 a4] := by rw [hw1]; have h := ((Blk.new (w.alloc (.cells #[.int .u8 (x : Int)] 5)) 3 #[.int .i64 a4]).alloc (.cells #[.bool false] 4)).alloc (.cells fieldCells 55); rw [World.size_alloc] at h; exact h
        have F2 : Blk w1 (w.heap.size + 1 + 1) 4 #[.bool false] := by rw [hw1]; have h := (Blk.new ((w.alloc (.cells #[.int .u8 (x : Int)] 5)).alloc (.cells #[.int .i64 a4] 3)) 4 #[.bool false]).alloc (.cells fieldCells 55); rw [World.size_alloc, World.size_alloc] at h; exact h
        have F3 : FieldAt w1 (w.heap.size + 1 + 1 + 1) := by rw [hw1]; have h := FieldAt.new (((w.alloc (.cells #[.int .u8 (x : Int)] 5)).alloc (.cells #[.int .i64 a4] 3)).alloc (.cells #[.bool false] 4)); rw [World.size_alloc, World.size_alloc, World.size_alloc] at h; exact h
        have FB : Below w.heap.size w w1 := by rw [hw1]; exact ((((Below.refl _ w).alloc (Nat.le_refl _) _).alloc (by simp) _).alloc (by simp; omega) _).alloc (by simp; omega) _
        have FZ : w1.heap.size = w.heap.size + 1 + 1 + 1 + 1 := by rw [hw1]; simp only [World.size_alloc]
        simp only [World.size_alloc]
        have HF := Lib.hid F3
        have HB := Lib.hid FB
        have HZ := Lib.hid FZ
        have HF0 := Lib.hid F0
        have HF1 := Lib.hid F1
        have HF2 := Lib.hid F2
        clear F3 FB hw1 FZ F0 F1 F2
        gi_wp2_with fail
        refine ⟨trivial, ?_⟩
        refine (callsIn_wide.2 (anchor1_any _ _ HF.out)).mono ?_
        rintro e w2 ⟨rfl, k, rfl⟩
        have c0 : (w1.drewN k).cell? ⟨w.heap.size, 0, none⟩ = some (.int .u8 (x : Int)) := (HF0.out.drewN k).cell 0
        have c1 : (w1.drewN k).cell? ⟨w.heap.size + 1, 0, none⟩ = some (.int .i64 a4) := (HF1.out.drewN k).cell 0
        have c2 : (w1.drewN k).cell? ⟨w.heap.size + 1 + 1, 0, none⟩ = some (.bool false) := (HF2.out.drewN k).cell 0
        have f2 : (w1.drewN k).frozen? ⟨w.heap.size + 1 + 1, 0, none⟩ = false := (HF2.out.drewN k).frozen 0
        gi_wp2
        refine ⟨_, by simp [results, Try.results5, go_sem, c2], rfl, (below_drewN HB.out k).setCell (p := ⟨w.heap.size + 1 + 1, 0, none⟩) (by simp; omega) _⟩
      · have g3 : 300 < a3 := by omega
        clear hbig
        refine (callsIn_wide (n := 6)).1 ?_
        refine callsIn_of_wp_marks Try.func5 rfl trivial ?_ rfl
        simp only [Try.ntmps5, List.size_toArray, List.length_cons, List.length_nil, Nat.reduceAdd, Nat.reduceSub, Array.replicate_succ, Array.replicate_zero, List.push_toArray, List.append_toArray, List.nil_append, List.cons_append]
        gi_wp2_with fail
        refine ⟨trivial, ?_⟩
        refine (callsIn_wide.2 (new_any _)).mono ?_
        rintro e w1 ⟨rfl, hw1⟩
        have F0 : Blk w1 w.heap.size 5 #[.int .u8 (x : Int)] := by rw [hw1]; exact (((Blk.new w _ _).alloc _).alloc _).alloc _
        have F1 : Blk w1 (w.heap.size + 1) 3 #[.int .i64 a4] := by rw [hw1]; have h := ((Blk.new (w.alloc (.cells #[.int .u8 (x : Int)] 5)) 3 #[.int .i64 a4]).alloc (.cells #[.bool false] 4)).alloc (.cells fieldCells 55); rw [World.size_alloc] at h; exact h
        have F2 : Blk w1 (w.heap.size + 1 + 1) 4 #[.bool false] := by rw [hw1]; have h := (Blk.new ((w.alloc (.cells #[.int .u8 (x : Int)] 5)).alloc (.cells #[.int .i64 a4] 3)) 4 #[.bool false]).alloc (.cells fieldCells 55); rw [World.size_alloc, World.size_alloc] at h; exact h
        have F3 : FieldAt w1 (w.heap.size + 1 + 1 + 1) := by rw [hw1]; have h := FieldAt.new (((w.alloc (.cells #[.int .u8 (x : Int)] 5)).alloc (.cells #[.int .i64 a4] 3)).alloc (.cells #[.bool false] 4)); rw [World.size_alloc, World.size_alloc, World.size_alloc] at h; exact h
        have FB : Below w.heap.size w w1 := by rw [hw1]; exact ((((Below.refl _ w).alloc (Nat.le_refl _) _).alloc (by simp) _).alloc (by simp; omega) _).alloc (by simp; omega) _
        have FZ : w1.heap.size = w.heap.size + 1 + 1 + 1 + 1 := by rw [hw1]; simp only [World.size_alloc]
        simp only [World.size_alloc]
        have HF := Lib.hid F3
        have HB := Lib.hid FB
        have HZ := Lib.hid FZ
        have HF0 := Lib.hid F0
        have HF1 := Lib.hid F1
        have HF2 := Lib.hid F2
        clear F3 FB hw1 FZ F0 F1 F2
        gi_wp2_with fail
        refine ⟨trivial, ?_⟩
        refine (callsIn_wide.2 (anchor1_any _ _ HF.out)).mono ?_
        rintro e w2 ⟨rfl, k, rfl⟩
        have c0 : (w1.drewN k).cell? ⟨w.heap.size, 0, none⟩ = some (.int .u8 (x : Int)) := (HF0.out.drewN k).cell 0
        have c1 : (w1.drewN k).cell? ⟨w.heap.size + 1, 0, none⟩ = some (.int .i64 a4) := (HF1.out.drewN k).cell 0
        have c2 : (w1.drewN k).cell? ⟨w.heap.size + 1 + 1, 0, none⟩ = some (.bool false) := (HF2.out.drewN k).cell 0
        have f2 : (w1.drewN k).frozen? ⟨w.heap.size + 1 + 1, 0, none⟩ = false := (HF2.out.drewN k).frozen 0
        gi_wp2
        refine ⟨_, by simp [results, Try.results5, go_sem, c2], rfl, (below_drewN HB.out k).setCell (p := ⟨w.heap.size + 1 + 1, 0, none⟩) (by simp; omega) _⟩
  · have l0 : n0 ≤ 200 := by omega
    have l1 : n1 ≤ 200 := by omega
    have l3 : a3 ≤ 300 := by omega
    clear hbig
    refine (callsIn_wide (n := 6)).1 ?_
    refine callsIn_of_wp_marks Try.func5 rfl trivial ?_ rfl
    simp only [Try.ntmps5, List.size_toArray, List.length_cons, List.length_nil, Nat.reduceAdd, Nat.reduceSub, Array.replicate_succ, Array.replicate_zero, List.push_toArray, List.append_toArray, List.nil_append, List.cons_append]
    gi_wp2_with fail
    refine ⟨trivial, ?_⟩
    refine (callsIn_wide.2 (new_any _)).mono ?_
    rintro e w1 ⟨rfl, hw1⟩
    have F0 : Blk w1 w.heap.size 5 #[.int .u8 (x : Int)] := by rw [hw1]; exact (((Blk.new w _ _).alloc _).alloc _).alloc _
    have F1 : Blk w1 (w.heap.size + 1) 3 #[.int .i64 a4] := by rw [hw1]; have h := ((Blk.new (w.alloc (.cells #[.int .u8 (x : Int)] 5)) 3 #[.int .i64 a4]).alloc (.cells #[.bool false] 4)).alloc (.cells fieldCells 55); rw [World.size_alloc] at h; exact h
    have F2 : Blk w1 (w.heap.size + 1 + 1) 4 #[.bool false] := by rw [hw1]; have h := (Blk.new ((w.alloc (.cells #[.int .u8 (x : Int)] 5)).alloc (.cells #[.int .i64 a4] 3)) 4 #[.bool false]).alloc (.cells fieldCells 55); rw [World.size_alloc, World.size_alloc] at h; exact h
    have F3 : FieldAt w1 (w.heap.size + 1 + 1 + 1) := by rw [hw1]; have h := FieldAt.new (((w.alloc (.cells #[.int .u8 (x : Int)] 5)).alloc (.cells #[.int .i64 a4] 3)).alloc (.cells #[.bool false] 4)); rw [World.size_alloc, World.size_alloc, World.size_alloc] at h; exact h
    have FB : Below w.heap.size w w1 := by rw [hw1]; exact ((((Below.refl _ w).alloc (Nat.le_refl _) _).alloc (by simp) _).alloc (by simp; omega) _).alloc (by simp; omega) _
    have FZ : w1.heap.size = w.heap.size + 1 + 1 + 1 + 1 := by rw [hw1]; simp only [World.size_alloc]
    simp only [World.size_alloc]
    have HF := Lib.hid F3
    have HB := Lib.hid FB
    have HZ := Lib.hid FZ
    have HF0 := Lib.hid F0
    have HF1 := Lib.hid F1
    have HF2 := Lib.hid F2
    clear F3 FB hw1 FZ F0 F1 F2
    gi_wp2_with fail
    refine ⟨trivial, ?_⟩
    refine (callsIn_wide.2 (anchor1_any _ _ HF.out)).mono ?_
    rintro e w2 ⟨rfl, k, rfl⟩
    have c0 : (w1.drewN k).cell? ⟨w.heap.size, 0, none⟩ = some (.int .u8 (x : Int)) := (HF0.out.drewN k).cell 0
    have c1 : (w1.drewN k).cell? ⟨w.heap.size + 1, 0, none⟩ = some (.int .i64 a4) := (HF1.out.drewN k).cell 0
    have c2 : (w1.drewN k).cell? ⟨w.heap.size + 1 + 1, 0, none⟩ = some (.bool false) := (HF2.out.drewN k).cell 0
    have f2 : (w1.drewN k).frozen? ⟨w.heap.size + 1 + 1, 0, none⟩ = false := (HF2.out.drewN k).frozen 0
    obtain ⟨W, hW⟩ : ∃ W, w1.drewN k = W := ⟨_, rfl⟩
    have WF : FieldAt W (w.heap.size + 1 + 1 + 1) := by rw [← hW]; exact HF.out
    have W0 : Blk W w.heap.size 5 #[.int .u8 (x : Int)] := by rw [← hW]; exact HF0.out
    have W1 : Blk W (w.heap.size + 1) 3 #[.int .i64 a4] := by rw [← hW]; exact HF1.out
    have W2 : Blk W (w.heap.size + 1 + 1) 4 #[.bool false] := by rw [← hW]; exact HF2.out
    have WB : Below w.heap.size w W := by rw [← hW]; exact below_drewN HB.out k
    have WZ : W.heap.size = w.heap.size + 1 + 1 + 1 + 1 := by rw [← hW]; exact HZ.out
    rw [hW] at c0 c1 c2 f2 ⊢
    have d0 : ∀ o, (W.alloc o).cell? ⟨w.heap.size, 0, none⟩ = some (.int .u8 (x : Int)) := fun o => (W0.alloc o).cell 0
    have NF := Lib.hid WF
    have N0 := Lib.hid W0
    have N1 := Lib.hid W1
    have N2 := Lib.hid W2
    have NB := Lib.hid WB
    have NZ := Lib.hid WZ
    have b0 : decide ((200 : Int) < (n0 : Int)) = false := by simp; omega
    have b1 : decide ((200 : Int) < (n1 : Int)) = false := by simp; omega
    have b3 : decide ((300 : Int) < a3) = false := by simp; omega
    clear hW HF HF0 HF1 HF2 HB HZ WF W0 W1 W2 WB WZ
    gi_wp2_with fail
    refine ⟨trivial, ?_⟩
    refine (callsIn_wide.2 (powers_any _ _ _ _)).mono ?_
    rintro e w3 ⟨rfl, hw3⟩
    simp only [World.size_alloc] at hw3 ⊢
    obtain ⟨b0, hb0⟩ : ∃ b0, w.heap.size = b0 := ⟨_, rfl⟩
    obtain ⟨b4, hb4⟩ : ∃ b4, W.heap.size = b4 := ⟨_, rfl⟩
    have b04 : b4 = b0 + 1 + 1 + 1 + 1 := by rw [← hb0, ← hb4]; exact NZ.out
    have V0 : Blk w3 b0 5 #[.int .u8 (x : Int)] := by rw [hw3, ← hb0]; exact (((N0.out.alloc _).alloc _).alloc _).alloc _
    have V1 : Blk w3 (b0 + 1) 3 #[.int .i64 a4] := by rw [hw3, ← hb0]; exact (((N1.out.alloc _).alloc _).alloc _).alloc _
    have V2 : Blk w3 (b0 + 1 + 1) 4 #[.bool false] := by rw [hw3, ← hb0]; exact (((N2.out.alloc _).alloc _).alloc _).alloc _
    have VF : FieldAt w3 (b0 + 1 + 1 + 1) := by rw [hw3, ← hb0]; exact (((Blk.alloc NF.out _).alloc _).alloc _).alloc _
    have V4 : Blk w3 b4 3 #[.int .i64 0] := by rw [hw3, ← hb4]; exact (((Blk.new W _ _).alloc _).alloc _).alloc _
    have V5 : Blk w3 (b4 + 1) 22 #[.pointer (some ⟨b0 + 1 + 1 + 1, 0, none⟩)] := by
      rw [hw3, ← hb4, ← hb0]; have h := ((Blk.new (W.alloc (.cells #[.int .i64 0] 3)) 22 #[.pointer (some ⟨w.heap.size + 1 + 1 + 1, 0, none⟩)]).alloc (.cells #[.int .u8 (x : Int)] 5)).alloc (.cells #[.int .i64 a3] 3)
      rw [World.size_alloc] at h; exact h
    have V6 : Blk w3 (b4 + 1 + 1) 5 #[.int .u8 (x : Int)] := by
      rw [hw3, ← hb4]; have h := (Blk.new ((W.alloc (.cells #[.int .i64 0] 3)).alloc (.cells #[.pointer (some ⟨w.heap.size + 1 + 1 + 1, 0, none⟩)] 22)) 5 #[.int .u8 (x : Int)]).alloc (.cells #[.int .i64 a3] 3)
      rw [World.size_alloc, World.size_alloc] at h; exact h
    have V7 : Blk w3 (b4 + 1 + 2) 3 #[.int .i64 a3] := by
      rw [hw3, ← hb4]; have h := (Blk.new (((W.alloc (.cells #[.int .i64 0] 3)).alloc (.cells #[.pointer (some ⟨w.heap.size + 1 + 1 + 1, 0, none⟩)] 22)).alloc (.cells #[.int .u8 (x : Int)] 5)) 3 #[.int .i64 a3])
      rw [World.size_alloc, World.size_alloc, World.size_alloc] at h; exact h
    have VB : Below b0 w w3 := by
      rw [hw3, ← hb0]; have := NB.out.size; exact (((NB.out.alloc (by omega) _).alloc (by simp; omega) _).alloc (by simp; omega) _).alloc (by simp; omega) _
    have VZ : w3.heap.size = b4 + 4 := by rw [hw3, ← hb4]; simp only [World.size_alloc]
    rw [hb4, hb0]
    clear hw3 NF N0 N1 N2 NB NZ c0 c1 c2 f2 d0
    have HB0 := Lib.hid hb0
    have l04 : b0 + 1 + 1 + 1 + 1 ≤ b4 := by omega
    clear hb0 hb4 b04
    gi_wp2
    have hN : max a3 0 = (a3.toNat : Int) := by omega
    have hN9 : a3.toNat ≤ 300 := by omega
    obtain ⟨N, hNN⟩ : ∃ N, a3.toNat = N := ⟨_, rfl⟩
    rw [hNN] at hN hN9
    refine iter_law (n := 6) rfl (by omega) (gf := 30) (lb := #[.pointer (some ⟨b4 + 1 + 2, 0, none⟩), .pointer (some ⟨b4 + 1, 0, none⟩), .pointer (some ⟨b4 + 1 + 1, 0, none⟩)]) rfl trivial (enters_of Try.func30 (by kernel_rfl) rfl)
      (powers_iter (6 - 1) (by omega) (b0 + 1 + 1 + 1) (b4 + 1 + 2) (b4 + 1) (b4 + 1 + 1) x N lx (by omega) a3 hN) ?hSt (fun _ h => h.elim) ?hKl (fun _ => rfl)
      (fun i U => Blk U b4 3 #[.int .i64 (i : Int)] ∧ Blk U b0 5 #[.int .u8 (x : Int)] ∧ Blk U (b0 + 1) 3 #[.int .i64 a4] ∧ Blk U (b0 + 1 + 1) 4 #[.bool false] ∧ FieldAt U (b0 + 1 + 1 + 1) ∧ Below b0 w U ∧ (a4 ≤ 0 ∨ (i : Int) < a4))
      (fun c i U => c = .exit 0 ∧ Blk U b4 3 #[.int .i64 (i : Int)] ∧ Blk U b0 5 #[.int .u8 (x : Int)] ∧ Blk U (b0 + 1) 3 #[.int .i64 a4] ∧ Blk U (b0 + 1 + 1) 4 #[.bool false] ∧ FieldAt U (b0 + 1 + 1 + 1) ∧ Below b0 w U ∧ (i : Int) = a4)
      ?hI ?hIx ?h0 ?act1 ?assign ?body ?done ?stop
    case hSt =>
      intro U hU
      have hs : ∀ b, b < b4 + 4 → U.heap[b]? = w3.heap[b]? := fun b h => hU b (by omega)
      have s7 : U.heap[b4 + 1 + 2]? = w3.heap[b4 + 1 + 2]? := hs _ (by omega)
      have s5 : U.heap[b4 + 1]? = w3.heap[b4 + 1]? := hs _ (by omega)
      have s6 : U.heap[b4 + 1 + 1]? = w3.heap[b4 + 1 + 1]? := hs _ (by omega)
      exact ⟨by rw [World.cell?_of_block s7]; exact V7.cell 0, by rw [World.cell?_of_block s5]; exact V5.cell 0, by rw [World.cell?_of_block s6]; exact V6.cell 0, (hs _ (by omega)).trans VF⟩
    case hKl => rintro c (rfl | rfl | rfl | rfl) <;> omega
    case hI =>
      rintro i A B ⟨h1, h2, h3, h4, h5, h6, h7⟩ t
      have k := fun {b : Nat} {cs : Array Value} {ty : TypeId} (h : Blk A b ty cs) => (t.heap (other_cells h (fun e => e)) h : Blk B b ty cs)
      exact ⟨k h1, k h2, k h3, k h4, k h5, h6.trans (t.below (by have := HB0.out; have := h6.size; omega) (fun b hb => by rcases hb with hb | hb; exact hb.elim; omega)), h7⟩
    case hIx =>
      rintro c i A B ⟨hc, h1, h2, h3, h4, h5, h6, h7⟩ t
      have k := fun {b : Nat} {cs : Array Value} {ty : TypeId} (h : Blk A b ty cs) => (t.heap (other_cells h (fun e => e)) h : Blk B b ty cs)
      exact ⟨hc, k h1, k h2, k h3, k h4, k h5, h6.trans (t.below (by have := HB0.out; have := h6.size; omega) (fun b hb => by rcases hb with hb | hb; exact hb.elim; omega)), h7⟩
    case h0 =>
      exact ⟨V4, V0, V1, V2, VF, VB, by omega⟩
    case assign =>
      intro l x W K hK
      gi_wp2
      exact hK
    case body =>
      rintro l i y U hy ⟨h1, h2, h3, h4, h5, h6, h7⟩
      have hiN : i < N := by
        rcases Nat.lt_or_ge i N with h | h
        · exact h
        · rw [List.getElem?_eq_none (by rw [List.length_map, List.length_range]; exact h)] at hy; cases hy
      obtain rfl : y = (i, gpow x i) := by
        rw [List.getElem?_map, List.getElem?_range hiN] at hy; exact (Option.some.inj hy).symm
      clear hy
      have e1 := h1.cell 0
      have e0 := h2.cell 0
      have e3 := h3.cell 0
      have e4 := h4.cell 0
      have f1 := h1.frozen 0
      have f4 := h4.frozen 0
      rw [show (#[Value.int .i64 (i : Int)] : Array Value)[0]? = some (.int .i64 (i : Int)) from rfl] at e1
      rw [show (#[Value.int .u8 (x : Int)] : Array Value)[0]? = some (.int .u8 (x : Int)) from rfl] at e0
      rw [show (#[Value.int .i64 a4] : Array Value)[0]? = some (.int .i64 a4) from rfl] at e3
      rw [show (#[Value.bool false] : Array Value)[0]? = some (.bool false) from rfl] at e4
      have I1 := Lib.hid h1
      have I2 := Lib.hid h2
      have I3 := Lib.hid h3
      have I4 := Lib.hid h4
      have I5 := Lib.hid h5
      have I6 := Lib.hid h6
      clear h1 h2 h3 h4 h5 h6
      have ne1 : ∀ v, (U.setCell ⟨b4, 0, none⟩ v).cell? ⟨b0 + 1, 0, none⟩ = some (.int .i64 a4) := fun v => by rw [World.cell?_setCell_other _ _ _ _ (by intro h; injection h with h; omega)]; exact e3
      by_cases hst : (i : Int) + 1 = a4
      · have hb : (((i : Int) + 1) == a4) = true := by rw [hst]; exact beq_self_eq_true _
        have HST := Lib.hid hst
        clear hst
        gi_wp2_with fail
        refine ⟨trivial, ?_⟩
        refine (CallsIn.inRound l (callsIn_wide.2 (refPow_any _ _ x i rfl rfl lx (by omega) _))).mono ?_
        rintro e w2 ⟨rfl, rfl⟩
        gi_wp2
        exact ⟨(KeepsOthers.setCell _ _ _).from _, rfl, I1.out.set_ 0 _, I2.out.far (p := ⟨b4, 0, none⟩) (by show b0 ≠ b4; omega) _, I3.out.far (p := ⟨b4, 0, none⟩) (by show b0 + 1 ≠ b4; omega) _, I4.out.far (p := ⟨b4, 0, none⟩) (by show b0 + 1 + 1 ≠ b4; omega) _, Blk.far I5.out (p := ⟨b4, 0, none⟩) (by show b0 + 1 + 1 + 1 ≠ b4; omega) _, I6.out.setCell (p := ⟨b4, 0, none⟩) (by show b0 ≤ b4; omega) _, by have := HST.out; omega⟩
      · have hb : (((i : Int) + 1) == a4) = false := beq_eq_false_iff_ne.2 hst
        have HST := Lib.hid hst
        clear hst
        gi_wp2_with fail
        refine ⟨trivial, ?_⟩
        refine (CallsIn.inRound l (callsIn_wide.2 (refPow_any _ _ x i rfl rfl lx (by omega) _))).mono ?_
        rintro e w2 ⟨rfl, rfl⟩
        gi_wp2
        exact ⟨(KeepsOthers.setCell _ _ _).from _, ⟨by show U.heap.size ≤ (U.heap.modify _ _).size; rw [Array.size_modify]; exact Nat.le_refl _, fun b hb => Below.heap_setCell U ⟨b4, 0, none⟩ _ b (by show b ≠ b4; omega)⟩, I1.out.set_ 0 _, I2.out.far (p := ⟨b4, 0, none⟩) (by show b0 ≠ b4; omega) _, I3.out.far (p := ⟨b4, 0, none⟩) (by show b0 + 1 ≠ b4; omega) _, I4.out.far (p := ⟨b4, 0, none⟩) (by show b0 + 1 + 1 ≠ b4; omega) _, Blk.far I5.out (p := ⟨b4, 0, none⟩) (by show b0 + 1 + 1 + 1 ≠ b4; omega) _, I6.out.setCell (p := ⟨b4, 0, none⟩) (by show b0 ≤ b4; omega) _, by have := HST.out; omega⟩
    case done =>
      rintro D U hD ⟨h1, h2, h3, h4, h5, h6, h7⟩ hK
      rw [List.length_map, List.length_range] at h1 h7
      have e1 := h1.cell 0
      have e3 := h3.cell 0
      have f4 := h4.frozen 0
      have e4 := h4.cell 0
      have hc : U.frozen? ⟨b0 + 1 + 1, 0, none⟩ = false := f4
      have hbb : Below w.heap.size w U := by rw [HB0.out]; exact h6
      have X0 := RX.out.below hbb
      have Y0 := RY.out.below hbb
      have C1 := dot_any (b0 + 1 + 1 + 1) A0 A1 n0 n1 c0 c1 xs ys HX.out HY.out (by unfold maxLen; omega) (by unfold maxLen; omega) U h5 X0 Y0
      have C2 := fun q => refDot_any A0 A1 n0 n1 c0 c1 xs ys HX.out HY.out (by unfold maxLen; omega) (by unfold maxLen; omega) (U.drewN q) (X0.drewN q) (Y0.drewN q)
      have D1 := Lib.hid C1
      have D2 := Lib.hid C2
      have I4 := Lib.hid h4
      have I6 := Lib.hid h6
      have HK := Lib.hid hK
      clear h1 h2 h3 h4 h5 h6 hK C1 C2 X0 Y0 hbb hc
      simp only [List.getElem?_toArray, List.getElem?_cons_zero] at e1 e3 e4
      by_cases hneg : a3 < 0
      · obtain rfl : N = 0 := by omega
        by_cases hs1 : a4 ≤ 0
        · gi_wp2_with fail
          refine ⟨trivial, ?_⟩
          refine (callsIn_wide.2 D1.out).mono ?_
          rintro e w2 ⟨rfl, k1, rfl⟩
          gi_wp2_with fail
          refine ⟨trivial, ?_⟩
          refine (callsIn_wide.2 (D2.out k1)).mono ?_
          rintro e w2 ⟨rfl, k2, rfl⟩
          gi_wp2
          have hKD := (KeepsOthers.setCell (U.drewN (k1 + k2)) ⟨b0 + 1 + 1, 0, none⟩ (.bool true)).same D _ HK.out rfl
          refine ⟨by simp, .inl ⟨_, _, rfl, run_takeDeferred hKD, ?_⟩⟩
          have hcell := cell_kept (World.cell?_setCell_same' (U.drewN (k1 + k2)) ⟨b0 + 1 + 1, 0, none⟩ (.bool true) (by rw [World.cell?_drewN, e4]; rfl)) (grownBy_putObj' _ D (.deferred none)) (fun r e => by cases e; exact ⟨_, hKD, rfl⟩)
          refine ⟨_, by simp [results, Try.results5, go_sem, hcell], rfl, ?_⟩
          have q := I6.out
          rw [← HB0.out] at q
          exact ((below_drewN q (k1 + k2)).setCell (p := ⟨b0 + 1 + 1, 0, none⟩) (by have := HB0.out; show w.heap.size ≤ b0 + 1 + 1; omega) _).trans (belowK_b (w := w) (Nat.le_refl _) _ D _ _ (by have := HB0.out; omega) hKD rfl rfl)
        · have hs2 : 1 ≤ a4 := by omega
          gi_wp2_with fail
          refine ⟨trivial, ?_⟩
          refine (callsIn_wide.2 D1.out).mono ?_
          rintro e w2 ⟨rfl, k1, rfl⟩
          gi_wp2_with fail
          refine ⟨trivial, ?_⟩
          refine (callsIn_wide.2 (D2.out k1)).mono ?_
          rintro e w2 ⟨rfl, k2, rfl⟩
          gi_wp2
          have hKD := (KeepsOthers.setCell (U.drewN (k1 + k2)) ⟨b0 + 1 + 1, 0, none⟩ (.bool true)).same D _ HK.out rfl
          refine ⟨by simp, .inl ⟨_, _, rfl, run_takeDeferred hKD, ?_⟩⟩
          have hcell := cell_kept (World.cell?_setCell_same' (U.drewN (k1 + k2)) ⟨b0 + 1 + 1, 0, none⟩ (.bool true) (by rw [World.cell?_drewN, e4]; rfl)) (grownBy_putObj' _ D (.deferred none)) (fun r e => by cases e; exact ⟨_, hKD, rfl⟩)
          refine ⟨_, by simp [results, Try.results5, go_sem, hcell], rfl, ?_⟩
          have q := I6.out
          rw [← HB0.out] at q
          exact ((below_drewN q (k1 + k2)).setCell (p := ⟨b0 + 1 + 1, 0, none⟩) (by have := HB0.out; show w.heap.size ≤ b0 + 1 + 1; omega) _).trans (belowK_b (w := w) (Nat.le_refl _) _ D _ _ (by have := HB0.out; omega) hKD rfl rfl)
      · have hkw : (((N : Nat) : Int) == a3) = true := by rw [beq_iff_eq]; omega
        by_cases hs1 : a4 ≤ 0
        · gi_wp2_with fail
          refine ⟨trivial, ?_⟩
          refine (callsIn_wide.2 D1.out).mono ?_
          rintro e w2 ⟨rfl, k1, rfl⟩
          gi_wp2_with fail
          refine ⟨trivial, ?_⟩
          refine (callsIn_wide.2 (D2.out k1)).mono ?_
          rintro e w2 ⟨rfl, k2, rfl⟩
          gi_wp2
          have hKD := (KeepsOthers.setCell (U.drewN (k1 + k2)) ⟨b0 + 1 + 1, 0, none⟩ (.bool true)).same D _ HK.out rfl
          refine ⟨by simp, .inl ⟨_, _, rfl, run_takeDeferred hKD, ?_⟩⟩
          have hcell := cell_kept (World.cell?_setCell_same' (U.drewN (k1 + k2)) ⟨b0 + 1 + 1, 0, none⟩ (.bool true) (by rw [World.cell?_drewN, e4]; rfl)) (grownBy_putObj' _ D (.deferred none)) (fun r e => by cases e; exact ⟨_, hKD, rfl⟩)
          refine ⟨_, by simp [results, Try.results5, go_sem, hcell], rfl, ?_⟩
          have q := I6.out
          rw [← HB0.out] at q
          exact ((below_drewN q (k1 + k2)).setCell (p := ⟨b0 + 1 + 1, 0, none⟩) (by have := HB0.out; show w.heap.size ≤ b0 + 1 + 1; omega) _).trans (belowK_b (w := w) (Nat.le_refl _) _ D _ _ (by have := HB0.out; omega) hKD rfl rfl)
        · have hs2 : 1 ≤ a4 := by omega
          have hs3 : a3 ≤ a4 := by omega
          gi_wp2_with fail
          refine ⟨trivial, ?_⟩
          refine (callsIn_wide.2 D1.out).mono ?_
          rintro e w2 ⟨rfl, k1, rfl⟩
          gi_wp2_with fail
          refine ⟨trivial, ?_⟩
          refine (callsIn_wide.2 (D2.out k1)).mono ?_
          rintro e w2 ⟨rfl, k2, rfl⟩
          gi_wp2
          have hKD := (KeepsOthers.setCell (U.drewN (k1 + k2)) ⟨b0 + 1 + 1, 0, none⟩ (.bool true)).same D _ HK.out rfl
          refine ⟨by simp, .inl ⟨_, _, rfl, run_takeDeferred hKD, ?_⟩⟩
          have hcell := cell_kept (World.cell?_setCell_same' (U.drewN (k1 + k2)) ⟨b0 + 1 + 1, 0, none⟩ (.bool true) (by rw [World.cell?_drewN, e4]; rfl)) (grownBy_putObj' _ D (.deferred none)) (fun r e => by cases e; exact ⟨_, hKD, rfl⟩)
          refine ⟨_, by simp [results, Try.results5, go_sem, hcell], rfl, ?_⟩
          have q := I6.out
          rw [← HB0.out] at q
          exact ((below_drewN q (k1 + k2)).setCell (p := ⟨b0 + 1 + 1, 0, none⟩) (by have := HB0.out; show w.heap.size ≤ b0 + 1 + 1; omega) _).trans (belowK_b (w := w) (Nat.le_refl _) _ D _ _ (by have := HB0.out; omega) hKD rfl rfl)
    case stop =>
      rintro D c i U hD hi ⟨rfl, h1, h2, h3, h4, h5, h6, h7⟩ hK
      rw [List.length_map, List.length_range] at hi
      have e1 := h1.cell 0
      have e3 := h3.cell 0
      have f4 := h4.frozen 0
      have e4 := h4.cell 0
      have hc : U.frozen? ⟨b0 + 1 + 1, 0, none⟩ = false := f4
      have hbb : Below w.heap.size w U := by rw [HB0.out]; exact h6
      have X0 := RX.out.below hbb
      have Y0 := RY.out.below hbb
      have C1 := dot_any (b0 + 1 + 1 + 1) A0 A1 n0 n1 c0 c1 xs ys HX.out HY.out (by unfold maxLen; omega) (by unfold maxLen; omega) U h5 X0 Y0
      have C2 := fun q => refDot_any A0 A1 n0 n1 c0 c1 xs ys HX.out HY.out (by unfold maxLen; omega) (by unfold maxLen; omega) (U.drewN q) (X0.drewN q) (Y0.drewN q)
      have D1 := Lib.hid C1
      have D2 := Lib.hid C2
      have I4 := Lib.hid h4
      have I6 := Lib.hid h6
      have HK := Lib.hid hK
      clear h1 h2 h3 h4 h5 h6 hK C1 C2 X0 Y0 hbb hc
      simp only [List.getElem?_toArray, List.getElem?_cons_zero] at e1 e3 e4
      have hneg : 0 < a3 := by omega
      by_cases hs1 : a4 < a3
      · have hs2 : 1 ≤ a4 := by omega
        have hkw : ((((i + 1 : Nat) : Nat) : Int) == a4) = true := by rw [beq_iff_eq]; exact h7
        clear h7
        have hkw2 : (((i : Int) + 1) == a4) = true := hkw
        gi_wp2_with fail
        refine ⟨trivial, ?_⟩
        refine (callsIn_wide.2 D1.out).mono ?_
        rintro e w2 ⟨rfl, k1, rfl⟩
        gi_wp2_with fail
        refine ⟨trivial, ?_⟩
        refine (callsIn_wide.2 (D2.out k1)).mono ?_
        rintro e w2 ⟨rfl, k2, rfl⟩
        gi_wp2
        have hKD := (KeepsOthers.setCell (U.drewN (k1 + k2)) ⟨b0 + 1 + 1, 0, none⟩ (.bool true)).same D _ HK.out rfl
        refine ⟨by simp, .inl ⟨_, _, rfl, run_takeDeferred hKD, ?_⟩⟩
        have hcell := cell_kept (World.cell?_setCell_same' (U.drewN (k1 + k2)) ⟨b0 + 1 + 1, 0, none⟩ (.bool true) (by rw [World.cell?_drewN, e4]; rfl)) (grownBy_putObj' _ D (.deferred none)) (fun r e => by cases e; exact ⟨_, hKD, rfl⟩)
        refine ⟨_, by simp [results, Try.results5, go_sem, hcell], rfl, ?_⟩
        have q := I6.out
        rw [← HB0.out] at q
        exact ((below_drewN q (k1 + k2)).setCell (p := ⟨b0 + 1 + 1, 0, none⟩) (by have := HB0.out; show w.heap.size ≤ b0 + 1 + 1; omega) _).trans (belowK_b (w := w) (Nat.le_refl _) _ D _ _ (by have := HB0.out; omega) hKD rfl rfl)
      · have hkw : (((i : Int) + 1) == a3) = true := by rw [beq_iff_eq]; omega
        have hs2 : 1 ≤ a4 := by omega
        have hs3 : a3 ≤ a4 := by omega
        clear h7
        gi_wp2_with fail
        refine ⟨trivial, ?_⟩
        refine (callsIn_wide.2 D1.out).mono ?_
        rintro e w2 ⟨rfl, k1, rfl⟩
        gi_wp2_with fail
        refine ⟨trivial, ?_⟩
        refine (callsIn_wide.2 (D2.out k1)).mono ?_
        rintro e w2 ⟨rfl, k2, rfl⟩
        gi_wp2
        have hKD := (KeepsOthers.setCell (U.drewN (k1 + k2)) ⟨b0 + 1 + 1, 0, none⟩ (.bool true)).same D _ HK.out rfl
        refine ⟨by simp, .inl ⟨_, _, rfl, run_takeDeferred hKD, ?_⟩⟩
        have hcell := cell_kept (World.cell?_setCell_same' (U.drewN (k1 + k2)) ⟨b0 + 1 + 1, 0, none⟩ (.bool true) (by rw [World.cell?_drewN, e4]; rfl)) (grownBy_putObj' _ D (.deferred none)) (fun r e => by cases e; exact ⟨_, hKD, rfl⟩)
        refine ⟨_, by simp [results, Try.results5, go_sem, hcell], rfl, ?_⟩
        have q := I6.out
        rw [← HB0.out] at q
        exact ((below_drewN q (k1 + k2)).setCell (p := ⟨b0 + 1 + 1, 0, none⟩) (by have := HB0.out; show w.heap.size ≤ b0 + 1 + 1; omega) _).trans (belowK_b (w := w) (Nat.le_refl _) _ D _ _ (by have := HB0.out; omega) hKD rfl rfl)
end Go.Proofs.Ytbpfojdlmkbngab
