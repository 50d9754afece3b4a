/- What the laws of polynomials carry from call to call; their example. -/
import Derived.Test.YticbbkaelfbaiaaPolyJ
import Derived.Test.YticbbkaelfbaiaaPolyW2
namespace Go.Proofs.Yticbbkaelfbaiaa
open Go.RowKit Go.Shelf
set_option linter.unusedVariables false

/-- The field, and the slices that were read or made, at a world behind the law's first. -/
structure PWs (w : World) (fb : Nat) (L : List (Option Addr × List UInt8)) (W : World) : Prop where
  bw : Below w.heap.size w W
  f : FieldAt W fb
  r : ∀ x ∈ L, RdB W x.1 x.2
section
variable {w W W' : World} {fb : Nat} {L : List (Option Addr × List UInt8)}
theorem PWs.start (hw : W = w.alloc (.cells fieldCells 52)) (L : List (Option Addr × List UInt8)) (h : ∀ x ∈ L, RdB w x.1 x.2) : PWs w w.heap.size L W := by
  have hb : Below w.heap.size w W := by rw [hw]; exact (Below.refl _ w).alloc (Nat.le_refl _) _
  exact ⟨hb, by rw [hw]; exact FieldAt.new w, fun x hx => (h x hx).below hb⟩
theorem PWs.step (h : PWs w fb L W) (hb : Below W.heap.size W W') : PWs w fb L W' :=
  ⟨h.bw.trans (hb.mono h.bw.size), (hb.block fb (Array.getElem?_eq_some_iff.1 h.f).1).trans h.f, fun x hx => (h.r x hx).below hb⟩
theorem PWs.add {A : Option Addr} {xs : List UInt8} (h : PWs w fb L W) (hb : Below W.heap.size W W') (hr : RdB W' A xs) : PWs w fb (L ++ [(A, xs)]) W' :=
  ⟨(h.step hb).bw, (h.step hb).f, fun x hx => by
    rcases List.mem_append.1 hx with hx | hx
    · exact (h.step hb).r x hx
    · obtain rfl := List.mem_singleton.1 hx
      exact hr⟩
theorem PWs.drew {q : Nat} (h : PWs w fb L W) (hq : W' = W.drewN q) : PWs w fb L W' := by
  subst hq; exact h.step ⟨rfl, rfl, rfl, Nat.le_refl _, fun _ _ => rfl⟩
theorem PWs.at (k : Nat) {A : Option Addr} {xs : List UInt8} (h : PWs w fb L W) (hk : L[k]? = some (A, xs)) : RdB W A xs := h.r _ (List.mem_of_getElem? hk)
theorem PWs.drewN (h : PWs w fb L W) (q : Nat) : PWs w fb L (W.drewN q) := h.drew rfl
end
theorem rd_lit (w : World) (xs : List UInt8) : RdB (w.alloc (.cells (rowV xs []) 5)) (some ⟨w.heap.size, 0, none⟩) xs := RdB.row (rest := []) (Blk.new w _ _)
theorem below_lit (w : World) (cs : Array Value) (t : TypeId) : Below w.heap.size w (w.alloc (.cells cs t)) := (Below.refl _ w).alloc (Nat.le_refl _) _
theorem IsRow.none {k : IntKind} {w : World} {a : Option Addr} {len cap : Nat} {zs : List Int} (h : IsRow k w a len cap zs) : a = none → cap = 0 := by
  rintro rfl
  rcases h with ⟨_, _, h, _⟩ | ⟨x, h, _⟩
  · exact h
  · cases h

theorem anchor2_any (b : Nat) (w : World) (hF : FieldAt w b) :
    Calls Try.prog 10 #[.pointer (some ⟨b, 0, none⟩)] w fun e w' => e = .returned (.bool true) ∧ Below w.heap.size w w' := by
  have HF := Lib.hid hF
  have HT := Lib.hid (show tlL [1, 0] = 1 from tlL_of (p := [1, 0]) (fun i hi => by
    rcases Nat.lt_or_ge i 2 with h | h
    · obtain rfl : i = 1 := by omega
      rfl
    · exact co_ge h) (.inr (show (1 : UInt8) ≠ 0 by decide)))
  clear hF
  go_enter Try.func10, Try.ntmps10
  go_wp2_with fail
  have hb1 := below_lit w (rowV [1, 2] []) 5
  refine (roots_any b (some ⟨w.heap.size, 0, none⟩) 2 2 [1, 2] rfl (by omega) (w.alloc (.cells (rowV [1, 2] []) 5)) ((hb1.block b (Array.getElem?_eq_some_iff.1 HF.out).1).trans HF.out) (rd_lit w [1, 2])).mono ?_
  rintro e W1 ⟨v, rfl, hv, hb2⟩
  have HB := Lib.hid (hb1.trans (hb2.mono hb1.size))
  obtain ⟨A1, c1, rfl, hc, _, hr⟩ := hv.open
  have hR : rootsL [1, 2] = [2, 3, 1] := by decide +kernel
  rw [hR] at hr ⊢
  have HR := Lib.hid hr
  rw [show ([2, 3, 1] : List UInt8).length = 3 from rfl]
  clear hb1 hb2 hv hc hr hR
  go_wp2_with fail
  have hb3 := below_lit W1 (rowV [2, 3, 1] []) 5
  refine (refSame1_any A1 (some ⟨W1.heap.size, 0, none⟩) 3 c1 3 [2, 3, 1] rfl (by unfold maxLen; omega) (W1.alloc (.cells (rowV [2, 3, 1] []) 5)) (HR.out.below hb3) (rd_lit W1 [2, 3, 1])).mono ?_
  rintro e W2 ⟨rfl, q, hq⟩
  have HB2 := Lib.hid (show Below w.heap.size w W2 by
    rw [hq]
    exact (HB.out.trans (hb3.mono HB.out.size)).trans ⟨rfl, rfl, rfl, Nat.le_refl _, fun _ _ => rfl⟩)
  clear hb3 hq
  go_wp2_with fail
  have hb4 := below_lit W2 (rowV [1, 0] []) 5
  have HD := Lib.hid (degree_any (some ⟨W2.heap.size, 0, none⟩) 2 2 [1, 0] rfl (by unfold maxLen; omega) (W2.alloc (.cells (rowV [1, 0] []) 5)) (rd_lit W2 [1, 0]))
  rw [HT.out, show ((1 : Nat) : Int) - 1 = 0 from rfl] at HD
  refine HD.out.mono ?_
  rintro e W3 ⟨rfl, rfl⟩
  have HB3 := Lib.hid (HB2.out.trans (hb4.mono HB2.out.size))
  clear hb4
  go_wp2
  go_ret
  exact ⟨rfl, HB3.out⟩
end Go.Proofs.Yticbbkaelfbaiaa
