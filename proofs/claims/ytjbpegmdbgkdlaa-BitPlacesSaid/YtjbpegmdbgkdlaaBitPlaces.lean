/- BitPlaces, walked: for every a, b the law returns true. -/
import Derived.Test.YtjbpegmdbgkdlaaBitPl
import Derived.Test.YtjbpegmdbgkdlaaBitPlm
import Derived.Test.YtjbpegmdbgkdlaaBitDf
import Derived.Test.YtjbpegmdbgkdlaaBitA
import Derived.Test.YtjbpegmdbgkdlaaQTail
import Derived.Test.YtjbpegmdbgkdlaaGrw
import Derived.Test.YtjbpegmdbgkdlaaSlc
import Derived.Deep.QuietTactic
import Derived.BigQuiet
import Derived.OpenShut
namespace Go.Proofs.Ytjbpegmdbgkdlaa
open Go.RowKit Go.Shelf
attribute [local go_sem] Oper.semAt_some

/-- A slice that the caller may lean on. -/
def Held (O : Nat → Prop) (U : World) (A : Option Addr) (zs : List UInt8) : Prop := RdB U A zs ∧ ∀ b, bl A b → 0 < zs.length → O b
theorem Held.turn {O : Nat → Prop} {U V : World} {A : Option Addr} {zs : List UInt8} (h : Held O U A zs) (t : Turn (fun b => ¬ O b) U V) : Held O V A zs :=
  ⟨fun k hk => by
    obtain ⟨b, o, hA, hlt, hc⟩ := h.1 k hk
    have hs := t.same b hlt (fun e => e (h.2 b ⟨_, hA, rfl⟩ (by omega)))
    exact ⟨b, o, hA, Nat.lt_of_lt_of_le hlt t.size, by rw [World.cell?_of_block (a := ⟨b, o + k, none⟩) hs]; exact hc⟩, h.2⟩
theorem Own.own_bl {w : World} {B : Nat} {A : Option Addr} {xs : List UInt8} (h : Own w B A xs) {b : Nat} (hb : bl A b) : B ≤ b ∧ b < w.heap.size ∧ ∃ o : Obj, w.heap[b]? = some o ∧ o.isCells = true := by
  rcases h with ⟨rfl, _⟩ | ⟨g, cs, rfl, hg, hk, _⟩
  · obtain ⟨a, ha, _⟩ := hb; cases ha
  · obtain ⟨a, ha, rfl⟩ := hb
    cases ha
    exact ⟨hg, hk.lt, _, hk, rfl⟩
theorem Own.rd {w w' : World} {B : Nat} {A : Option Addr} {xs : List UInt8} (h : Own w B A xs) (hs : ∀ b, B ≤ b → b < w.heap.size → w'.heap[b]? = w.heap[b]?) : RdB w' A xs := by
  rcases h with ⟨rfl, rfl⟩ | ⟨g, cs, rfl, hg, hk, hc⟩
  · exact RdB.nil
  · exact RdB.ofBlk ((hs g hg hk.lt).trans hk) hc
theorem Own.grow {K O : Nat → Prop} {U W : World} {A : Option Addr} {xs : List UInt8} (h : Own W U.heap.size A xs) (hb : Below U.heap.size U W) (hO : ∀ b, O b → b < U.heap.size) : Grow K O (fun b => O b ∨ bl A b) U W := by
  refine ⟨hb.size, ?_, ?_, ?_, fun b hlt _ => hb.block b hlt⟩
  · rintro b hlt (h1 | h1)
    · exact h1
    · have := (h.own_bl h1).1; omega
  · rintro b (h1 | h1)
    · exact Nat.lt_of_lt_of_le (hO b h1) hb.size
    · exact (h.own_bl h1).2.1
  · rintro b o (h1 | h1) ho hc
    · exact ⟨o, (hb.block b (hO b h1)).symm.trans ho, hc⟩
    · obtain ⟨_, _, o', h2, h3⟩ := h.own_bl h1
      rw [ho] at h2; cases h2; rw [hc] at h3; cases h3

set_option maxHeartbeats 1000000 in
set_option maxRecDepth 100000 in
theorem BitPlaces_walk (A0 : Option Addr) (n0 c0 : Nat) (z0 : List Int) (A1 : Option Addr) (n1 c1 : Nat) (z1 : List Int) (w : World)
    (r0 : IsRow .u8 w A0 n0 c0 z0) (r1 : IsRow .u8 w A1 n1 c1 z1) :
    Calls Try.prog 3 #[.slice A0 n0 c0, .slice A1 n1 c1] w fun e w' => e = .returned (.bool true) ∧ Below w.heap.size w w' := by
  obtain ⟨xs, hx0, hx1, hx2, hx3⟩ := r0.bytes
  obtain ⟨ys, hy0, hy1, hy2, hy3⟩ := r1.bytes
  clear r0 r1
  unfold maxLen at hx2 hy2
  have hA : ∀ b, bl A0 b → 0 < n0 → b < w.heap.size := by
    rintro b ⟨a, rfl, rfl⟩ hn
    obtain ⟨b', o', h', hb', _⟩ := hx3 0 (by omega)
    cases h'; exact hb'
  have hB : ∀ b, bl A1 b → 0 < n1 → b < w.heap.size := by
    rintro b ⟨a, rfl, rfl⟩ hn
    obtain ⟨b', o', h', hb', _⟩ := hy3 0 (by omega)
    cases h'; exact hb'
  have HA := Lib.hid hA
  have HB := Lib.hid hB
  clear hA hB
  have HX := Lib.hid hx0
  have HY := Lib.hid hy0
  have RX := Lib.hid hx3
  have RY := Lib.hid hy3
  clear hx0 hy0 hx3 hy3
  by_cases hbig : 100 < n0 ∨ 100 < n1
  · by_cases g0 : 100 < n0
    · refine (callsIn_wide (n := 6)).1 ?_
      refine callsIn_of_wp_marks Try.func3 rfl trivial ?_ rfl
      simp only [Try.ntmps3, List.size_toArray, List.length_cons, List.length_nil, Nat.reduceAdd, Nat.reduceSub, Array.replicate_succ, Array.replicate_zero, List.push_toArray, List.append_toArray, List.nil_append, List.cons_append]
      gi_wp2_with fail
      refine ⟨trivial, ?_⟩
      refine (callsIn_wide.2 (anchor3_any _)).mono ?_
      rintro e w1 ⟨rfl, hw1⟩
      simp only [World.size_alloc] at hw1 ⊢
      obtain ⟨b0, hb0⟩ : ∃ b0, w.heap.size = b0 := ⟨_, rfl⟩
      have hl : ∀ b, b < b0 + 1 + 1 + 1 → w1.heap[b]? = (((w.alloc (.cells #[.slice A0 n0 c0] 22)).alloc (.cells #[.slice A1 n1 c1] 22)).alloc (.cells #[.bool false] 4)).heap[b]? := fun b hb => hw1.block b (by omega)
      have K0 : Blk w1 b0 22 #[.slice A0 n0 c0] := (hl b0 (by omega)).trans (by rw [← hb0]; exact ((Blk.new w _ _).alloc _).alloc _)
      have K1 : Blk w1 (b0 + 1) 22 #[.slice A1 n1 c1] := (hl (b0 + 1) (by omega)).trans (by
        rw [← hb0]; have h := (Blk.new (w.alloc (.cells #[.slice A0 n0 c0] 22)) 22 #[.slice A1 n1 c1]).alloc (.cells #[.bool false] 4); rw [World.size_alloc] at h; exact h)
      have K2 : Blk w1 (b0 + 1 + 1) 4 #[.bool false] := (hl (b0 + 1 + 1) (by omega)).trans (by
        rw [← hb0]; have h := (Blk.new ((w.alloc (.cells #[.slice A0 n0 c0] 22)).alloc (.cells #[.slice A1 n1 c1] 22)) 4 #[.bool false]); rw [World.size_alloc, World.size_alloc] at h; exact h)
      have KB : Below b0 w w1 := by
        rw [← hb0]; exact (((Below.refl w.heap.size w).alloc (Nat.le_refl _) _).alloc (by simp) _ |>.alloc (by simp; omega) _).trans (hw1.mono (by omega))
      have KZ : b0 + 1 + 1 + 1 ≤ w1.heap.size := by have := hw1.size; simp at this; omega
      rw [hb0] at hw1 ⊢
      have HB0 := Lib.hid hb0
      have e0 := K0.cell 0
      have e1 := K1.cell 0
      have e2 := K2.cell 0
      have f2 := K2.frozen 0
      simp only [List.getElem?_toArray, List.getElem?_cons_zero] at e0 e1 e2
      have HK0 := Lib.hid K0
      have HK1 := Lib.hid K1
      have HK2 := Lib.hid K2
      have HKB := Lib.hid KB
      have HKZ := Lib.hid KZ
      clear hw1 hl hb0 K0 K1 K2 KB KZ
      gi_wp2
      refine ⟨_, by simp [results, Try.results3, go_sem, e2], rfl, ?_⟩
      have q := HKB.out
      rw [← HB0.out] at q
      exact q.setCell (p := ⟨b0 + 1 + 1, 0, none⟩) (by have := HB0.out; show w.heap.size ≤ b0 + 1 + 1; omega) _
    · have g1 : 100 < n1 := by omega
      clear hbig
      refine (callsIn_wide (n := 6)).1 ?_
      refine callsIn_of_wp_marks Try.func3 rfl trivial ?_ rfl
      simp only [Try.ntmps3, List.size_toArray, List.length_cons, List.length_nil, Nat.reduceAdd, Nat.reduceSub, Array.replicate_succ, Array.replicate_zero, List.push_toArray, List.append_toArray, List.nil_append, List.cons_append]
      gi_wp2_with fail
      refine ⟨trivial, ?_⟩
      refine (callsIn_wide.2 (anchor3_any _)).mono ?_
      rintro e w1 ⟨rfl, hw1⟩
      simp only [World.size_alloc] at hw1 ⊢
      obtain ⟨b0, hb0⟩ : ∃ b0, w.heap.size = b0 := ⟨_, rfl⟩
      have hl : ∀ b, b < b0 + 1 + 1 + 1 → w1.heap[b]? = (((w.alloc (.cells #[.slice A0 n0 c0] 22)).alloc (.cells #[.slice A1 n1 c1] 22)).alloc (.cells #[.bool false] 4)).heap[b]? := fun b hb => hw1.block b (by omega)
      have K0 : Blk w1 b0 22 #[.slice A0 n0 c0] := (hl b0 (by omega)).trans (by rw [← hb0]; exact ((Blk.new w _ _).alloc _).alloc _)
      have K1 : Blk w1 (b0 + 1) 22 #[.slice A1 n1 c1] := (hl (b0 + 1) (by omega)).trans (by
        rw [← hb0]; have h := (Blk.new (w.alloc (.cells #[.slice A0 n0 c0] 22)) 22 #[.slice A1 n1 c1]).alloc (.cells #[.bool false] 4); rw [World.size_alloc] at h; exact h)
      have K2 : Blk w1 (b0 + 1 + 1) 4 #[.bool false] := (hl (b0 + 1 + 1) (by omega)).trans (by
        rw [← hb0]; have h := (Blk.new ((w.alloc (.cells #[.slice A0 n0 c0] 22)).alloc (.cells #[.slice A1 n1 c1] 22)) 4 #[.bool false]); rw [World.size_alloc, World.size_alloc] at h; exact h)
      have KB : Below b0 w w1 := by
        rw [← hb0]; exact (((Below.refl w.heap.size w).alloc (Nat.le_refl _) _).alloc (by simp) _ |>.alloc (by simp; omega) _).trans (hw1.mono (by omega))
      have KZ : b0 + 1 + 1 + 1 ≤ w1.heap.size := by have := hw1.size; simp at this; omega
      rw [hb0] at hw1 ⊢
      have HB0 := Lib.hid hb0
      have e0 := K0.cell 0
      have e1 := K1.cell 0
      have e2 := K2.cell 0
      have f2 := K2.frozen 0
      simp only [List.getElem?_toArray, List.getElem?_cons_zero] at e0 e1 e2
      have HK0 := Lib.hid K0
      have HK1 := Lib.hid K1
      have HK2 := Lib.hid K2
      have HKB := Lib.hid KB
      have HKZ := Lib.hid KZ
      clear hw1 hl hb0 K0 K1 K2 KB KZ
      gi_wp2
      refine ⟨_, by simp [results, Try.results3, go_sem, e2], rfl, ?_⟩
      have q := HKB.out
      rw [← HB0.out] at q
      exact q.setCell (p := ⟨b0 + 1 + 1, 0, none⟩) (by have := HB0.out; show w.heap.size ≤ b0 + 1 + 1; omega) _
  · have l0 : n0 ≤ 100 := by omega
    have l1 : n1 ≤ 100 := by omega
    clear hbig
    refine (callsIn_wide (n := 6)).1 ?_
    refine callsIn_of_wp_marks Try.func3 rfl trivial ?_ rfl
    simp only [Try.ntmps3, List.size_toArray, List.length_cons, List.length_nil, Nat.reduceAdd, Nat.reduceSub, Array.replicate_succ, Array.replicate_zero, List.push_toArray, List.append_toArray, List.nil_append, List.cons_append]
    gi_wp2_with fail
    refine ⟨trivial, ?_⟩
    refine (callsIn_wide.2 (anchor3_any _)).mono ?_
    rintro e w1 ⟨rfl, hw1⟩
    simp only [World.size_alloc] at hw1 ⊢
    obtain ⟨b0, hb0⟩ : ∃ b0, w.heap.size = b0 := ⟨_, rfl⟩
    have hl : ∀ b, b < b0 + 1 + 1 + 1 → w1.heap[b]? = (((w.alloc (.cells #[.slice A0 n0 c0] 22)).alloc (.cells #[.slice A1 n1 c1] 22)).alloc (.cells #[.bool false] 4)).heap[b]? := fun b hb => hw1.block b (by omega)
    have K0 : Blk w1 b0 22 #[.slice A0 n0 c0] := (hl b0 (by omega)).trans (by rw [← hb0]; exact ((Blk.new w _ _).alloc _).alloc _)
    have K1 : Blk w1 (b0 + 1) 22 #[.slice A1 n1 c1] := (hl (b0 + 1) (by omega)).trans (by
      rw [← hb0]; have h := (Blk.new (w.alloc (.cells #[.slice A0 n0 c0] 22)) 22 #[.slice A1 n1 c1]).alloc (.cells #[.bool false] 4); rw [World.size_alloc] at h; exact h)
    have K2 : Blk w1 (b0 + 1 + 1) 4 #[.bool false] := (hl (b0 + 1 + 1) (by omega)).trans (by
      rw [← hb0]; have h := (Blk.new ((w.alloc (.cells #[.slice A0 n0 c0] 22)).alloc (.cells #[.slice A1 n1 c1] 22)) 4 #[.bool false]); rw [World.size_alloc, World.size_alloc] at h; exact h)
    have KB : Below b0 w w1 := by
      rw [← hb0]; exact (((Below.refl w.heap.size w).alloc (Nat.le_refl _) _).alloc (by simp) _ |>.alloc (by simp; omega) _).trans (hw1.mono (by omega))
    have KZ : b0 + 1 + 1 + 1 ≤ w1.heap.size := by have := hw1.size; simp at this; omega
    rw [hb0] at hw1 ⊢
    have HB0 := Lib.hid hb0
    have e0 := K0.cell 0
    have e1 := K1.cell 0
    have e2 := K2.cell 0
    have f2 := K2.frozen 0
    simp only [List.getElem?_toArray, List.getElem?_cons_zero] at e0 e1 e2
    have HK0 := Lib.hid K0
    have HK1 := Lib.hid K1
    have HK2 := Lib.hid K2
    have HKB := Lib.hid KB
    have HKZ := Lib.hid KZ
    clear hw1 hl hb0 K0 K1 K2 KB KZ
    have t0 : decide ((100 : Int) < (n0 : Int)) = false := by simp; omega
    have t1 : decide ((100 : Int) < (n1 : Int)) = false := by simp; omega
    obtain ⟨N, hN⟩ : ∃ N, min n0 n1 = N := ⟨_, rfl⟩
    have hNI : min (n0 : Int) (n1 : Int) = (N : Int) := by omega
    have hN0 : N ≤ n0 := by omega
    have hN1 : N ≤ n1 := by omega
    have HN := Lib.hid hN
    clear hN
    obtain ⟨W, hW⟩ : ∃ W, w1 = W := ⟨_, rfl⟩
    subst hW
    have d0 : ∀ o, (w1.alloc o).cell? ⟨b0, 0, none⟩ = some (.slice A0 n0 c0) := fun o => (HK0.out.alloc o).cell 0
    have d1 : ∀ o, (w1.alloc o).cell? ⟨b0 + 1, 0, none⟩ = some (.slice A1 n1 c1) := fun o => (HK1.out.alloc o).cell 0
    have d2 : ∀ o o' o'', (((w1.alloc o).alloc o').alloc o'').cell? ⟨b0, 0, none⟩ = some (.slice A0 n0 c0) := fun o o' o'' => (((HK0.out.alloc o).alloc o').alloc o'').cell 0
    have d3 : ∀ o o' o'', (((w1.alloc o).alloc o').alloc o'').cell? ⟨b0 + 1, 0, none⟩ = some (.slice A1 n1 c1) := fun o o' o'' => (((HK1.out.alloc o).alloc o').alloc o'').cell 0
    have sl0 := sliceAt_low A0 n0 c0 N (by omega)
    have sl1 := sliceAt_low A1 n1 c1 N (by omega)
    gi_wp2_with fail
    refine ⟨trivial, ?_⟩
    refine (callsIn_wide.2 (places_any _ _ _ _ _ _ _)).mono ?_
    rintro e w3 ⟨rfl, hw3⟩
    simp only [World.size_alloc] at hw3 ⊢
    obtain ⟨bs, hbs⟩ : ∃ bs, w1.heap.size = bs := ⟨_, rfl⟩
    have zs : b0 + 1 + 1 + 1 ≤ bs := by rw [← hbs]; exact HKZ.out
    have V0 : Blk w3 b0 22 #[.slice A0 n0 c0] := by rw [hw3]; exact ((((HK0.out.alloc _).alloc _).alloc _).alloc _).alloc _
    have V1 : Blk w3 (b0 + 1) 22 #[.slice A1 n1 c1] := by rw [hw3]; exact ((((HK1.out.alloc _).alloc _).alloc _).alloc _).alloc _
    have V2 : Blk w3 (b0 + 1 + 1) 4 #[.bool false] := by rw [hw3]; exact ((((HK2.out.alloc _).alloc _).alloc _).alloc _).alloc _
    have VB : Below b0 w w3 := by
      rw [hw3]; have := HKB.out.size; exact (((((HKB.out.alloc (by omega) _).alloc (by simp; omega) _).alloc (by simp; omega) _).alloc (by simp; omega) _).alloc (by simp; omega) _)
    have V3 : Blk w3 bs 3 #[.int .i64 (N : Int)] := by rw [hw3, ← hbs]; exact ((((Blk.new w1 _ _).alloc _).alloc _).alloc _).alloc _
    have V4 : Blk w3 (bs + 1) 22 #[.slice A0 N c0] := by
      rw [hw3, ← hbs]; have h := (((Blk.new (w1.alloc (.cells #[.int .i64 (N : Int)] 3)) 22 #[.slice A0 N c0]).alloc (.cells #[.int .i64 0] 3)).alloc (.cells #[.slice A0 n0 c0] 22)).alloc (.cells #[.slice A1 n1 c1] 22)
      rw [World.size_alloc] at h; exact h
    have V5 : Blk w3 (bs + 2) 3 #[.int .i64 0] := by
      rw [hw3, ← hbs]; have h := ((Blk.new ((w1.alloc (.cells #[.int .i64 (N : Int)] 3)).alloc (.cells #[.slice A0 N c0] 22)) 3 #[.int .i64 0]).alloc (.cells #[.slice A0 n0 c0] 22)).alloc (.cells #[.slice A1 n1 c1] 22)
      rw [World.size_alloc, World.size_alloc] at h; exact h
    have V6 : Blk w3 (bs + 3) 22 #[.slice A0 n0 c0] := by
      rw [hw3, ← hbs]; have h := (Blk.new (((w1.alloc (.cells #[.int .i64 (N : Int)] 3)).alloc (.cells #[.slice A0 N c0] 22)).alloc (.cells #[.int .i64 0] 3)) 22 #[.slice A0 n0 c0]).alloc (.cells #[.slice A1 n1 c1] 22)
      rw [World.size_alloc, World.size_alloc, World.size_alloc] at h; exact h
    have V7 : Blk w3 (bs + 4) 22 #[.slice A1 n1 c1] := by
      rw [hw3, ← hbs]; have h := Blk.new ((((w1.alloc (.cells #[.int .i64 (N : Int)] 3)).alloc (.cells #[.slice A0 N c0] 22)).alloc (.cells #[.int .i64 0] 3)).alloc (.cells #[.slice A0 n0 c0] 22)) 22 #[.slice A1 n1 c1]
      rw [World.size_alloc, World.size_alloc, World.size_alloc, World.size_alloc] at h; exact h
    have VZ : w3.heap.size = bs + 5 := by rw [hw3, ← hbs]; simp
    rw [hbs]
    have W0 := Lib.hid V0
    have W1 := Lib.hid V1
    have W2 := Lib.hid V2
    have W3 := Lib.hid V3
    have W4 := Lib.hid V4
    have W5 := Lib.hid V5
    have W6 := Lib.hid V6
    have W7 := Lib.hid V7
    have WB := Lib.hid VB
    have WZ := Lib.hid VZ
    clear HK0 HK1 HK2 HKB HKZ d0 d1 d2 d3 e0 e1 e2 f2 V0 V1 V2 V3 V4 V5 V6 V7 VB VZ hw3 hbs sl0 sl1 hNI t0 t1
    gi_wp2
    have hA : ∀ b, bl A0 b → 0 < n0 → b < b0 := by rw [← HB0.out]; exact HA.out
    have hB : ∀ b, bl A1 b → 0 < n1 → b < b0 := by rw [← HB0.out]; exact HB.out
    have hK : ∀ b, plK (bs + 3) (bs + 4) A0 A1 n0 n1 b → (b < b0 ∨ b = bs + 3 ∨ b = bs + 4) := by
      rintro b (rfl | rfl | ⟨h1, h2⟩ | ⟨h1, h2⟩)
      · omega
      · omega
      · exact .inl (hA b h2 h1)
      · exact .inl (hB b h2 h1)
    have HKK := Lib.hid hK
    clear hA hB hK
    refine iter_law3 (n := 6) rfl (by omega) (gf := 14) (lb := #[.pointer (some ⟨bs + 3, 0, none⟩), .pointer (some ⟨bs + 4, 0, none⟩)]) rfl trivial (enters_of Try.func14 (by kernel_rfl) rfl)
      (places_iter (6 - 1) (by omega) (bs + 3) (bs + 4) A0 A1 n0 n1 c0 c1 xs ys HX.out HY.out (by omega) (by omega)) (fun b => b < bs + 5) ?hSt ?hO (fun _ h => h.elim) ?hKl (fun _ => rfl)
      (fun i O U => ((∃ A' c', Blk U (bs + 1) 22 #[.slice A' N c'] ∧ Held O U A' (turns (xs.take N) ((plTo xs ys (min n0 n1)).take i))) ∧ (∀ b, b < bs + 5 → O b) ∧ (∀ b, O b → b < U.heap.size)) ∧ Blk U (bs + 2) 3 #[.int .i64 (i : Int)] ∧ Blk U bs 3 #[.int .i64 (N : Int)] ∧ Blk U b0 22 #[.slice A0 n0 c0] ∧ Blk U (b0 + 1) 22 #[.slice A1 n1 c1] ∧ Blk U (b0 + 1 + 1) 4 #[.bool false] ∧ Below b0 w U)
      (fun _ _ _ _ => False)
      ?hI (fun _ _ _ _ _ h _ => h.elim) ?h0 ?act1 ?assign ?body ?done (fun _ _ _ _ _ _ _ _ h _ => h.elim)
    case hSt =>
      intro U hU
      have wz := WZ.out
      have hs : ∀ b, b < bs + 5 → U.heap[b]? = w3.heap[b]? := fun b h => hU b (by omega)
      have hb : Below w.heap.size w w3 := by rw [HB0.out]; exact WB.out
      have hr : ∀ {A : Option Addr} {zs : List UInt8} {n : Nat}, zs.length = n → RdB w3 A zs → (∀ b, bl A b → 0 < n → b < b0) → RdB U A zs := by
        intro A zs n hz h hb k hk
        obtain ⟨b, o, hA, hlt, hc⟩ := h k hk
        have := hb b ⟨_, hA, rfl⟩ (by omega)
        have hsb : U.heap[b]? = w3.heap[b]? := hs b (by omega)
        exact ⟨b, o, hA, (by
          have h1 : w3.heap[b]? = some w3.heap[b] := Array.getElem?_eq_getElem hlt
          exact (Array.getElem?_eq_some_iff.1 (hsb.trans h1)).1), by rw [World.cell?_of_block (a := ⟨b, o + k, none⟩) hsb]; exact hc⟩
      refine ⟨?_, ?_, hr HX.out (RX.out.below hb) (by rw [← HB0.out]; exact HA.out), hr HY.out (RY.out.below hb) (by rw [← HB0.out]; exact HB.out)⟩
      · rw [World.cell?_of_block (a := ⟨bs + 3, 0, none⟩) (hs (bs + 3) (by omega))]; exact W6.out.cell 0
      · rw [World.cell?_of_block (a := ⟨bs + 4, 0, none⟩) (hs (bs + 4) (by omega))]; exact W7.out.cell 0
    case hO => intro b hb; have := WZ.out; omega
    case hKl => intro b hb; have := HKK.out b hb; have := WZ.out; omega
    case hI =>
      rintro i O A B ⟨⟨⟨A', c', h0, hh⟩, ho1, ho2⟩, h1, h2, h3, h4, h5, h6⟩ t
      have k := fun {b : Nat} {cs : Array Value} {ty : TypeId} (h : Blk A b ty cs) (hb : b < bs + 5) => (t.heap (fun e => e (ho1 b hb)) h : Blk B b ty cs)
      exact ⟨⟨⟨A', c', k h0 (by omega), hh.turn t⟩, ho1, fun b hb => Nat.lt_of_lt_of_le (ho2 b hb) t.size⟩, k h1 (by omega), k h2 (by omega), k h3 (by omega), k h4 (by omega), k h5 (by omega), h6.trans (t.below (by have := h6.size; have := HB0.out; omega) (fun b hb => by
        rcases Nat.lt_or_ge b b0 with hlt | hge
        · exact (hb (ho1 b (by omega))).elim
        · exact hge))⟩
    case h0 =>
      have hb : Below w.heap.size w w3 := by rw [HB0.out]; exact WB.out
      refine ⟨⟨⟨A0, c0, W4.out, ?_, ?_⟩, fun b hb => hb, fun b hb => by have := WZ.out; omega⟩, W5.out, W3.out, W0.out, W1.out, W2.out, WB.out⟩
      · rw [List.take_zero, turns]; exact (RX.out.below hb).take N
      · intro b h1 h2
        have := HA.out b h1 (by rw [turns_length, List.length_take, HX.out] at h2; omega)
        have := HB0.out
        omega
    case assign =>
      intro l x W K hK
      gi_wp2
      exact hK
    case body =>
      rintro l i p O U hy hsz ⟨⟨⟨A', c', h0, hh⟩, ho1, ho2⟩, h1, h2, h3, h4, h5, h6⟩
      rw [HN.out] at hy hh
      have hpm := plTo_mem xs ys N p (List.mem_of_getElem? hy)
      have hil : i < (plTo xs ys N).length := (List.getElem?_eq_some_iff.1 hy).1
      have hlen : (turns (xs.take N) ((plTo xs ys N).take i)).length = N := by rw [turns_length, List.length_take, HX.out]; omega
      have hnx : turns (xs.take N) ((plTo xs ys N).take (i + 1)) = flipI (turns (xs.take N) ((plTo xs ys N).take i)) (p : Int) := by
        rw [List.take_add_one, hy, Option.toList_some, turns_snoc]
      have hdf := turns_df xs ys N (by rw [HX.out]; omega) (by rw [HY.out]; omega) (i + 1) hil
      rw [hnx] at hdf
      have hi2 : i < 20000 := by
        have h7 := plTo_length xs ys N
        have h8 := dfB_le xs ys N
        omega
      have hD2 : dfB xs ys N ≤ 64 * N := dfB_le xs ys N
      have FL := flip_any A' N c' _ hlen (by omega) (p : Int) (by omega) (by omega) U hh.1
      obtain ⟨zs, hzs⟩ : ∃ zs, flipI (turns (xs.take N) ((plTo xs ys N).take i)) (p : Int) = zs := ⟨_, rfl⟩
      have hzl : zs.length = N := by rw [← hzs, flipI_length]; exact hlen
      rw [hzs] at FL hnx hdf
      obtain ⟨D, hD⟩ : ∃ D, dfB xs ys N = D := ⟨_, rfl⟩
      have e0 := h0.cell 0
      simp only [List.getElem?_toArray, List.getElem?_cons_zero] at e0
      have HFL := Lib.hid FL
      have HZS := Lib.hid hzs
      have HZL := Lib.hid hzl
      have HNX := Lib.hid hnx
      have HDF := Lib.hid hdf
      have HDD := Lib.hid hD
      have HI := Lib.hid (And.intro h0 (And.intro h1 (And.intro h2 (And.intro h3 (And.intro h4 (And.intro h5 (And.intro h6 (And.intro ho1 ho2))))))))
      have HSZ := Lib.hid hsz
      have HYP := Lib.hid hy
      rw [hD] at hD2
      clear FL hzs hzl hnx hdf hD h0 h1 h2 h3 h4 h5 h6 ho1 ho2 hh hsz hy hlen
      gi_wp2_with fail
      refine ⟨trivial, ?_⟩
      refine (CallsIn.inRound l (callsIn_wide.2 HFL.out)).mono ?_
      rintro e W ⟨A2, c2, rfl, hown, hrd, hbw⟩
      obtain ⟨h0, h1, h2, h3, h4, h5, h6, ho1, ho2⟩ := HI.out
      have hsz := HSZ.out
      have wz := WZ.out
      have kb := fun {b : Nat} {cs : Array Value} {ty : TypeId} (h : Blk U b ty cs) (hb : b < bs + 5) => (h.below hbw (by omega) : Blk W b ty cs)
      have m0 := kb h0 (by omega)
      have m1 := kb h1 (by omega)
      have m2 := kb h2 (by omega)
      have m3 := kb h3 (by omega)
      have m4 := kb h4 (by omega)
      have m5 := kb h5 (by omega)
      have e0 := m0.cell 0
      have f0 := m0.frozen 0
      have e1 := m1.cell 0
      have f1 := m1.frozen 0
      simp only [List.getElem?_toArray, List.getElem?_cons_zero] at e0 e1
      have g1 : ∀ v, (W.setCell ⟨bs + 1, 0, none⟩ v).cell? ⟨bs + 2, 0, none⟩ = some (.int .i64 (i : Int)) := fun v => by rw [World.cell?_setCell_other _ _ _ _ (by intro h; injection h with h; omega)]; exact e1
      have HM := Lib.hid (And.intro m0 (And.intro m1 (And.intro m2 (And.intro m3 (And.intro m4 (And.intro m5 (And.intro h6 (And.intro ho1 ho2))))))))
      have HOW := Lib.hid hown
      have HBW := Lib.hid hbw
      clear hrd hown hbw h0 h1 h2 h3 h4 h5 h6 ho1 ho2 kb m0 m1 m2 m3 m4 m5 HI hsz wz
      gi_upto_region 12 with fail
      obtain ⟨X, hX⟩ : ∃ X, (W.setCell ⟨bs + 1, 0, none⟩ (.slice A2 N c2)).setCell ⟨bs + 2, 0, none⟩ (.int .i64 ((i : Int) + 1)) = X := ⟨_, rfl⟩
      rw [hX]
      obtain ⟨m0, m1, m2, m3, m4, m5, h6, ho1, ho2⟩ := HM.out
      have n0' : Blk X (bs + 1) 22 #[.slice A2 N c2] := by rw [← hX]; exact (m0.set_ 0 _).far (p := ⟨bs + 2, 0, none⟩) (by show bs + 1 ≠ bs + 2; omega) _
      have n1' : Blk X (bs + 2) 3 #[.int .i64 ((i : Int) + 1)] := by rw [← hX]; exact (m1.far (p := ⟨bs + 1, 0, none⟩) (by show bs + 2 ≠ bs + 1; omega) _).set_ 0 _
      have fr := fun {b : Nat} {cs : Array Value} {ty : TypeId} (h : Blk W b ty cs) (hb : b ≠ bs + 1 ∧ b ≠ bs + 2) => (show Blk X b ty cs by rw [← hX]; exact (h.far (p := ⟨bs + 1, 0, none⟩) hb.1 _).far (p := ⟨bs + 2, 0, none⟩) hb.2 _)
      have n2' := fr m2 (by omega)
      have n3' := fr m3 (by omega)
      have n4' := fr m4 (by omega)
      have n5' := fr m5 (by omega)
      have nb : Below b0 w X := by
        rw [← hX]; exact ((h6.trans (HBW.out.mono (by have := HSZ.out; have := WZ.out; omega))).setCell (p := ⟨bs + 1, 0, none⟩) (by show b0 ≤ bs + 1; omega) _).setCell (p := ⟨bs + 2, 0, none⟩) (by show b0 ≤ bs + 2; omega) _
      have ub : Below w.heap.size w X := by rw [HB0.out]; exact nb
      have sm : ∀ b, U.heap.size ≤ b → X.heap[b]? = W.heap[b]? := fun b hb => by
        have := HSZ.out; have := WZ.out
        rw [← hX]; exact (Below.heap_setCell _ ⟨bs + 2, 0, none⟩ _ b (by show b ≠ bs + 2; omega)).trans (Below.heap_setCell W ⟨bs + 1, 0, none⟩ _ b (by show b ≠ bs + 1; omega))
      have hrx : RdB X A2 zs := HOW.out.rd fun b h1 _ => sm b h1
      have ux := (RX.out.below ub).take N
      have uy := (RY.out.below ub).take N
      have lx : (xs.take N).length = N := by rw [List.length_take, HX.out]; omega
      have ly : (ys.take N).length = N := by rw [List.length_take, HY.out]; omega
      have GD := fun k => differ_any A2 A1 N N c2 c1 zs (ys.take N) HZL.out ly (by omega) (by omega) (X.drewN k) (hrx.drewN k) (uy.drewN k)
      have GR := fun k => refDiffer_any A0 A1 N N c0 c1 (xs.take N) (ys.take N) lx ly (by omega) (by unfold maxLen; omega) (X.drewN k) (ux.drewN k) (uy.drewN k)
      simp only [dfTo_take, HDD.out] at GR
      have hdi : ((dI zs (ys.take N) : Nat) : Int) = (D : Int) - ((i : Int) + 1) := by
        have h1 : dI zs (ys.take N) = dfB zs (ys.take N) N := by
          unfold dI; rw [HZL.out, ly]; simp
        have h2 := HDF.out
        rw [dfTo_eight, ← h1, HDD.out] at h2
        omega
      rw [hdi] at GD
      have e0 := n0'.cell 0
      have e1 := n1'.cell 0
      have e2 := n2'.cell 0
      have e3 := n3'.cell 0
      have e4 := n4'.cell 0
      simp only [List.getElem?_toArray, List.getElem?_cons_zero] at e0 e1 e2 e3 e4
      have sl0 := sliceAt_low A0 n0 c0 N (by omega)
      have sl1 := sliceAt_low A1 n1 c1 N (by omega)
      have HGD := Lib.hid GD
      have HGR := Lib.hid GR
      have HXX := Lib.hid hX
      have HRX := Lib.hid hrx
      have HN1 := Lib.hid (And.intro n0' (And.intro n1' (And.intro n2' (And.intro n3' (And.intro n4' (And.intro n5' nb))))))
      clear GD GR hX hrx n0' n1' n2' n3' n4' n5' nb ub ux uy lx ly hdi sm fr m0 m1 m2 m3 m4 m5 h6 ho1 ho2 f0 f1 g1
      have FW : Fence.wide.fn 9 := trivial
      have FW2 : Fence.wide.fn 8 := trivial
      refine wpIn_region_quietR (by kernel_rfl) rfl (by kernel_rfl) ?_
      repeat (gi_big_quiet_step ((first | (gi_at_call 8; exact CallsIn.quiet_of_same (CallsIn.inRound l (callsIn_wide.2 ((HGD.out _).mono fun _ _ h => ⟨h.1, h.2.symm⟩)))) | (gi_at_call 9; exact CallsIn.quiet_of_same (CallsIn.inRound l (callsIn_wide.2 ((HGR.out _).mono fun _ _ h => ⟨h.1, h.2.symm⟩)))))))
      refine wpQuietIn_nil ?_
      intro _ hw'
      obtain ⟨nq, hw''⟩ := hw'
      subst hw''
      gi_wp2
      obtain ⟨n0', n1', n2', n3', n4', n5', nb⟩ := HN1.out
      obtain ⟨_, _, _, _, _, _, _, ho1, ho2⟩ := HM.out
      have hsz := HSZ.out
      have wz := WZ.out
      have nk : ∀ b, b = bs + 1 ∨ b = bs + 2 → ¬ plK (bs + 3) (bs + 4) A0 A1 n0 n1 b := fun b hb h => by have := HKK.out b h; omega
      have hsx : X.heap.size = W.heap.size := by rw [← HXX.out]; simp [World.setCell]
      have gw := ((HOW.out.grow (K := plK (bs + 3) (bs + 4) A0 A1 n0 n1) HBW.out ho2).setCell (p := ⟨bs + 1, 0, none⟩) (.inr ⟨ho1 _ (by show bs + 1 < bs + 5; omega), nk _ (.inl rfl)⟩) (.slice A2 N c2)).setCell (p := ⟨bs + 2, 0, none⟩) (.inr ⟨ho1 _ (by show bs + 2 < bs + 5; omega), nk _ (.inr rfl)⟩) (.int .i64 ((i : Int) + 1))
      rw [HXX.out] at gw
      refine ⟨fun b => O b ∨ bl A2 b, gw.drewN nq, ⟨⟨A2, c2, n0'.drewN nq, ?_⟩, fun b hb => .inl (ho1 b hb), (gw.drewN nq).new⟩, n1'.drewN nq, n2'.drewN nq, n3'.drewN nq, n4'.drewN nq, n5'.drewN nq, below_drewN nb nq⟩
      rw [HN.out, HNX.out]
      exact ⟨HRX.out.drewN nq, fun b hb _ => .inr hb⟩
    case done =>
      rintro Dm O1 U hD hnD ⟨⟨⟨A', c', h0, hh⟩, ho1, ho2⟩, h1, h2, h3, h4, h5, h6⟩ hK
      rw [HN.out, List.take_length] at hh
      have hdf := turns_df xs ys N (by rw [HX.out]; omega) (by rw [HY.out]; omega) (plTo xs ys N).length (Nat.le_refl _)
      rw [List.take_length, plTo_length] at hdf
      have hlen : (turns (xs.take N) (plTo xs ys N)).length = N := by rw [turns_length, List.length_take, HX.out]; omega
      obtain ⟨zs, hzs⟩ : ∃ zs, turns (xs.take N) (plTo xs ys N) = zs := ⟨_, rfl⟩
      rw [hzs] at hh hdf hlen
      have hz : dfTo zs (ys.take N) (8 * N) = 0 := by omega
      have ub : Below w.heap.size w U := by rw [HB0.out]; exact h6
      have uy := (RY.out.below ub).take N
      have ly : (ys.take N).length = N := by rw [List.length_take, HY.out]; omega
      have GR := fun k => refDiffer_any A' A1 N N c' c1 zs (ys.take N) hlen ly (by omega) (by unfold maxLen; omega) (U.drewN k) (hh.1.drewN k) (uy.drewN k)
      rw [hz] at GR
      have e0 := h0.cell 0
      have e2 := h2.cell 0
      have e4 := h4.cell 0
      have e5 := h5.cell 0
      have f5 := h5.frozen 0
      simp only [List.getElem?_toArray, List.getElem?_cons_zero] at e0 e2 e4 e5
      have sl1 := sliceAt_low A1 n1 c1 N (by omega)
      have HGR := Lib.hid GR
      have H6 := Lib.hid h6
      have HK := Lib.hid hK
      clear h0 h1 h2 h3 h4 h5 h6 hK GR hz hdf hlen ub uy ly hh ho1 ho2 hzs
      have FW : Fence.wide.fn 9 := trivial
      gi_upto_region 14 with fail
      refine wpIn_region_tail 6 (by kernel_rfl) (by kernel_rfl) ?_
      simp only [List.take_succ_cons, List.take_zero, List.drop_succ_cons, List.drop_zero]
      repeat (gi_big_quiet_step ((gi_at_call 9; exact CallsIn.quiet_of_same (callsIn_wide.2 ((HGR.out _).mono fun _ _ h => ⟨h.1, h.2.symm⟩)))))
      refine wpQuietIn_nil ?_
      intro _ hw'
      obtain ⟨nq, hw''⟩ := hw'
      subst hw''
      gi_wp2
      have hKD := (KeepsOthers.setCell (U.drewN nq) ⟨b0 + 1 + 1, 0, none⟩ (.bool true)).same Dm _ HK.out rfl
      refine ⟨by simp, .inl ⟨_, _, rfl, run_takeDeferred hKD, ?_⟩⟩
      have hcell := cell_kept (World.cell?_setCell_same' (U.drewN nq) ⟨b0 + 1 + 1, 0, none⟩ (.bool true) (by rw [World.cell?_drewN, e5]; rfl)) (grownBy_putObj' _ Dm (.deferred none)) (fun r e => by cases e; exact ⟨_, hKD, rfl⟩)
      refine ⟨_, by simp [results, Try.results3, go_sem, hcell], rfl, ?_⟩
      have q := H6.out
      rw [← HB0.out] at q
      exact ((below_drewN q nq).setCell (p := ⟨b0 + 1 + 1, 0, none⟩) (by have := HB0.out; show w.heap.size ≤ b0 + 1 + 1; omega) _).trans (belowK_b (w := w) (Nat.le_refl _) _ Dm _ _ (by have := HB0.out; have := WZ.out; omega) hKD rfl rfl)
end Go.Proofs.Ytjbpegmdbgkdlaa
