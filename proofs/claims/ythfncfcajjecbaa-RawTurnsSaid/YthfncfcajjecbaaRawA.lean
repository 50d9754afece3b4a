/- raw's anchor: walk. -/
import Derived.Test.YthfncfcajjecbaaRawI
import Derived.Test.YthfncfcajjecbaaQTail
import Derived.Sort.BigQuietIn
import Derived.Sort.CutIn
import Derived.Lib.Agree
namespace Go.Proofs.Ythfncfcajjecbaa
open Go.RowKit Go.Shelf
attribute [local go_sem] Oper.semAt_some

theorem of13 : ofL 1 3 = (List.range 8).map (fun k => 9 * k + 3) := by decide

set_option maxRecDepth 100000 in
set_option maxHeartbeats 4000000 in
theorem anchor9_any (w : World) : Calls Try.prog 8 #[] w fun e w' => e = .returned (.bool true) ∧ Below w.heap.size w w' := by
  have C2 := fun w => chips_any 2 w
  rw [show chN 2 = 36 from rfl, show ((36 : Nat) : Int) = 36 from rfl] at C2
  have D2 := fun w => words_any 2 w
  rw [show wdN 2 = 2 from rfl, show ((2 : Nat) : Int) = 2 from rfl] at D2
  have HC2 := Lib.hid C2
  have HD2 := Lib.hid D2
  clear C2 D2
  refine (callsIn_wide (n := 6)).1 ?_
  refine callsIn_of_wp_marks Try.func8 rfl trivial ?_ rfl
  simp only [Try.ntmps8, List.size_toArray, List.length_nil, Nat.reduceSub, Array.replicate_succ, Array.replicate_zero, List.push_toArray, List.append_toArray, List.nil_append, List.cons_append]
  gi_wp2_with fail
  refine ⟨trivial, ?_⟩
  refine (callsIn_wide.2 (HC2.out _)).mono ?_
  rintro e w2 ⟨rfl, rfl⟩
  gi_wp2_with fail
  refine ⟨trivial, ?_⟩
  refine (callsIn_wide.2 (of_any _ _ _)).mono ?_
  rintro e W4 ⟨rfl, hw4⟩
  simp only [World.size_alloc] at hw4 ⊢
  obtain ⟨b0, hb0⟩ : ∃ b0, w.heap.size = b0 := ⟨_, rfl⟩
  rw [hb0]
  have M0 : Blk W4 b0 4 #[.bool false] := by rw [hw4, ← hb0]; exact (((Blk.new w _ _).alloc _).alloc _).alloc _
  have M1 : Blk W4 (b0 + 1) 3 #[.int .i64 0] := by
    rw [hw4, ← hb0]; have h := (Blk.new (w.alloc (.cells #[.bool false] 4)) 3 #[.int .i64 0]); rw [World.size_alloc] at h; exact (h.alloc _).alloc _
  have M2 : Blk W4 (b0 + 2) 3 #[.int .i64 1] := by
    rw [hw4, ← hb0]; have h := (Blk.new ((w.alloc (.cells #[.bool false] 4)).alloc (.cells #[.int .i64 0] 3)) 3 #[.int .i64 1]); simp only [World.size_alloc] at h; exact h.alloc _
  have M3 : Blk W4 (b0 + 3) 3 #[.int .i64 3] := by
    rw [hw4, ← hb0]; have h := (Blk.new (((w.alloc (.cells #[.bool false] 4)).alloc (.cells #[.int .i64 0] 3)).alloc (.cells #[.int .i64 1] 3)) 3 #[.int .i64 3]); simp only [World.size_alloc] at h; exact h
  have MB : Below b0 w W4 := by
    rw [hw4, ← hb0]; exact ((((Below.refl w.heap.size w).alloc (Nat.le_refl _) _).alloc (by simp) _).alloc (by simp; omega) _).alloc (by simp; omega) _
  have MZ : W4.heap.size = b0 + 4 := by rw [hw4, ← hb0]; simp
  have HB0 := Lib.hid hb0
  have N0 := Lib.hid M0
  have N1 := Lib.hid M1
  have N2 := Lib.hid M2
  have N3 := Lib.hid M3
  have NB := Lib.hid MB
  have NZ := Lib.hid MZ
  clear M0 M1 M2 M3 MB MZ hw4 hb0
  gi_wp2
  refine iter_law3 (n := 6) rfl (by omega) (gf := 25) (lb := #[.pointer (some ⟨b0 + 2, 0, none⟩), .pointer (some ⟨b0 + 3, 0, none⟩)]) rfl trivial (enters_of Try.func25 (by kernel_rfl) rfl)
    (of_iter (6 - 1) (by omega) (b0 + 2) (b0 + 3) 1 3) (fun b => b < b0 + 4) ?hSt ?hO (fun _ h => h.elim) ?hK (fun _ => rfl)
    (fun i O U => O = (fun b => b < b0 + 4) ∧ Blk U (b0 + 1) 3 #[.int .i64 (i : Int)] ∧ Blk U b0 4 #[.bool false] ∧ Below b0 w U ∧ b0 + 4 ≤ U.heap.size)
    (fun _ _ _ _ => False)
    ?hI ?hIx ?h0 ?act1 ?assign ?body ?done ?stop
  case hSt =>
    intro U hU
    have wz := NZ.out
    exact ⟨by rw [World.cell?_of_block (a := ⟨b0 + 2, 0, none⟩) (hU (b0 + 2) (by omega))]; exact N2.out.cell 0, by rw [World.cell?_of_block (a := ⟨b0 + 3, 0, none⟩) (hU (b0 + 3) (by omega))]; exact N3.out.cell 0⟩
  case hO => intro b hb; have := NZ.out; omega
  case hK => intro b hb; have := NZ.out; omega
  case hI =>
    rintro i O A B ⟨rfl, h0, h1, h3, h4⟩ t
    have k := fun {b : Nat} {cs : Array Value} {ty : TypeId} (h : Blk A b ty cs) (hb : b < b0 + 4) => (t.heap (fun e => e hb) h : Blk B b ty cs)
    exact ⟨rfl, k h0 (by omega), k h1 (by omega), h3.trans (t.below (by omega) (fun b hb => by
      rcases Nat.lt_or_ge b b0 with hlt | hge
      · exact (hb (by omega)).elim
      · exact hge)), Nat.le_trans h4 t.size⟩
  case hIx => rintro c i O A B h t; exact h.elim
  case h0 => exact ⟨rfl, N1.out, N0.out, NB.out, by have := NZ.out; omega⟩
  case assign =>
    intro l x W K hK
    gi_wp2
    exact hK
  case body =>
    rintro l i x O U hx hsz ⟨rfl, h0, h1, h3, h4⟩
    have hi : i < 8 := by have := (List.getElem?_eq_some_iff.1 hx).1; rw [of13, List.length_map, List.length_range] at this; exact this
    obtain rfl : x = 9 * i + 3 := by rw [of13, List.getElem?_map, List.getElem?_range hi] at hx; exact (Option.some.inj hx).symm
    clear hx
    have e0 := h0.cell 0
    have f0 := h0.frozen 0
    simp only [List.getElem?_toArray, List.getElem?_cons_zero] at e0
    push_cast
    have HI := Lib.hid (And.intro h0 (And.intro h1 (And.intro h3 h4)))
    clear h0 h1 h3 h4 hsz
    gi_wp2
    obtain ⟨h0, h1, h3, h4⟩ := HI.out
    exact ⟨_, (Grow.refl _ (fun b hb => by omega)).setCell (p := ⟨b0 + 1, 0, none⟩) (.inr ⟨by show b0 + 1 < b0 + 4; omega, fun h => by rcases h with h | h <;> (have h' : b0 + 1 = _ := h; omega)⟩) _, rfl, h0.set_ 0 _, h1.far (p := ⟨b0 + 1, 0, none⟩) (by show b0 ≠ b0 + 1; omega) _, h3.setCell (p := ⟨b0 + 1, 0, none⟩) (by show b0 ≤ b0 + 1; omega) _, by simp [World.setCell]; exact h4⟩
  case stop => rintro Dm c i O1 U hD hnD hlen h hK; exact h.elim
  case done =>
    rintro Dm O1 U hD hnD ⟨rfl, h0, h1, h3, h4⟩ hK
    rw [of13, List.length_map, List.length_range, show ((8 : Nat) : Int) = 8 from rfl] at h0
    have e0 := h0.cell 0
    have e1 := h1.cell 0
    have f1 := h1.frozen 0
    simp only [List.getElem?_toArray, List.getElem?_cons_zero] at e0 e1
    have H3 := Lib.hid h3
    have HK := Lib.hid hK
    clear h0 h1 h3 h4 hK
    gi_wp2_with fail
    refine ⟨trivial, ?_⟩
    refine (callsIn_wide.2 (HC2.out _)).mono ?_
    rintro e w2 ⟨rfl, rfl⟩
    gi_wp2_with fail
    refine ⟨trivial, ?_⟩
    refine (callsIn_wide.2 (HD2.out _)).mono ?_
    rintro e w2 ⟨rfl, rfl⟩
    gi_wp2
    have hKD := (KeepsOthers.setCell U ⟨b0, 0, none⟩ (.bool true)).same Dm _ HK.out rfl
    refine ⟨by simp, .inl ⟨_, _, rfl, run_takeDeferred hKD, ?_⟩⟩
    have hcell := cell_kept (World.cell?_setCell_same' U ⟨b0, 0, none⟩ (.bool true) (by rw [e1]; rfl)) (grownBy_putObj' _ Dm (.deferred none)) (fun r e => by cases e; exact ⟨_, hKD, rfl⟩)
    refine ⟨_, by simp [results, Try.results8, go_sem, hcell], rfl, ?_⟩
    have q := H3.out
    have hb0 := HB0.out.symm
    rw [hb0] at q
    exact (q.setCell (p := ⟨b0, 0, none⟩) (by show w.heap.size ≤ b0; omega) _).trans ((Turn.putObj (S := fun b => w.heap.size ≤ b) _ (l := Dm) (by have := NZ.out; omega) _).below (by have := q.size; simp [World.setCell]; exact this) (fun b hb => hb))
end Go.Proofs.Ythfncfcajjecbaa
