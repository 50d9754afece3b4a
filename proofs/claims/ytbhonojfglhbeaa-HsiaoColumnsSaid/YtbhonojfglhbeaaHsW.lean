/- The code's block, and what its small functions do: walks. -/
import Derived.Test.YtbhonojfglhbeaaHsM
import Derived.Test.YtbhonojfglhbeaaMemP
import Derived.Test.YtbhonojfglhbeaaRf
import Derived.WalkKit
import Derived.WalkSpells
import Derived.WalkLawsBesides
import Derived.Lib.Hide
import Derived.Deep.QuietTactic
import Derived.BigQuiet
import Derived.RegionTactic
import Derived.ChangeAlike
namespace Go.Proofs.Ytbhonojfglhbeaa
open Go.RowKit

theorem ret_intH {k : IntKind} {a b : Int} (h : a = b) : Ending.returned (.int k a) = .returned (.int k b) := by rw [h]

def codeCells (s : List Nat × List Int) : Array Value := (s.1.map (fun x => Value.int .u8 (x : Nat)) ++ s.2.map (fun x => Value.int .i64 x)).toArray
theorem codeCells_col {s : List Nat × List Int} (h : s.1.length = 74) {i : Nat} (hi : i < 74) : (codeCells s)[i]? = some (.int .u8 (s.1.getD i 0 : Nat)) := by
  unfold codeCells
  rw [List.getElem?_toArray, List.getElem?_append_left (by rw [List.length_map, h]; exact hi), List.getElem?_map, List.getD_eq_getElem?_getD, List.getElem?_eq_getElem (by rw [h]; exact hi)]
  rfl
theorem codeCells_at {s : List Nat × List Int} (h : s.1.length = 74) (h2 : s.2.length = 256) {x : Nat} (hx : x < 256) : (codeCells s)[74 + x]? = some (.int .i64 (s.2.getD x (-1))) := by
  unfold codeCells
  rw [List.getElem?_toArray, List.getElem?_append_right (by rw [List.length_map, h]; omega), List.length_map, h, Nat.add_sub_cancel_left, List.getElem?_map, List.getD_eq_getElem?_getD, List.getElem?_eq_getElem (by rw [h2]; exact hx)]
  rfl
theorem codeCells_set1 {s : List Nat × List Int} (h : s.1.length = 74) {i : Nat} (hi : i < 74) (x : Nat) : (codeCells s).setIfInBounds i (.int .u8 (x : Nat)) = codeCells (s.1.set i x, s.2) := by
  unfold codeCells
  rw [List.setIfInBounds_toArray, List.set_append_left _ _ (by rw [List.length_map, h]; exact hi), List.map_set]
theorem codeCells_set2 {s : List Nat × List Int} (h : s.1.length = 74) (x : Nat) (v : Int) : (codeCells s).setIfInBounds (74 + x) (.int .i64 v) = codeCells (s.1, s.2.set x v) := by
  unfold codeCells
  rw [List.setIfInBounds_toArray, List.set_append_right _ _ (by rw [List.length_map, h]; omega), List.length_map, h, Nat.add_sub_cancel_left, List.map_set]

/-- Block g holds the code. -/
def CodeAt (w : World) (g : Nat) : Prop := Blk w g 51 (codeCells (hC 10))
theorem CodeAt.col {w : World} {g : Nat} (h : CodeAt w g) {i : Nat} (hi : i < 74) : w.cell? ⟨g, i, none⟩ = some (.int .u8 (col i : Nat)) := by
  rw [Blk.cell h, codeCells_col (hC_len 10).1 hi]; rfl
theorem CodeAt.at {w : World} {g : Nat} (h : CodeAt w g) {x : Nat} (hx : x < 256) : w.cell? ⟨g, 74 + x, none⟩ = some (.int .i64 (atS x)) := by
  rw [Blk.cell h, codeCells_at (hC_len 10).1 (hC_len 10).2 hx]; rfl

set_option maxRecDepth 100000 in
theorem put_any (g : Nat) (s : List Nat × List Int) (h1 : s.1.length = 74) (h2 : s.2.length = 256) (i x : Nat) (hi : i < 74) (hx : x < 256) (w : World) (hb : Blk w g 51 (codeCells s)) :
    Calls Try.prog 24 #[.pointer (some ⟨g, 0, none⟩), .int .i64 (i : Int), .int .u8 (x : Int)] w fun e w' => e = .returned (.tuple #[]) ∧ Blk w' g 51 (codeCells (hput s i x)) ∧ Turn (fun b => b = g) w w' := by
  have c1 : w.cell? ⟨g, i, none⟩ = some (.int .u8 (s.1.getD i 0 : Nat)) := by rw [hb.cell, codeCells_col h1 hi]
  have c2 : w.cell? ⟨g, 74 + x, none⟩ = some (.int .i64 (s.2.getD x (-1))) := by rw [hb.cell, codeCells_at h1 h2 hx]
  have f1 := hb.frozen i
  have f2 := hb.frozen (74 + x)
  have hne : ¬ (74 + x = i) := by omega
  have hne2 : ¬ (i = 74 + x) := by omega
  have i1 : (i : Int) < 74 := by omega
  have i2 : (x : Int) < 256 := by omega
  have HB := Lib.hid hb
  have H1 := Lib.hid h1
  have H2 := Lib.hid h2
  clear hb h1 h2
  go_enter Try.func24, Try.ntmps24
  go_wp2
  go_region
  all_goals
    go_end0
    refine ⟨rfl, ?_, (Turn.setCell (S := fun b => b = g) w (p := ⟨g, i, none⟩) rfl _).trans ((Turn.setCell (S := fun b => b = g) _ (p := ⟨g, 74 + x, none⟩) rfl _).trans (Turn.drewN _ _ 1))⟩
    have h := ((HB.out.set_ i (.int .u8 (x : Int))).set_ (74 + x) (.int .i64 (i : Int))).drewN 1
    rw [codeCells_set1 H1.out hi, codeCells_set2 (by rw [List.length_set]; exact H1.out)] at h
    exact h

/-- The column of any number. -/
def colI (i : Int) : Nat := if 0 ≤ i ∧ i < 74 then col i.toNat else 0
set_option maxRecDepth 100000 in
theorem column_any (g : Nat) (i : Int) (h0 : -9223372036854775808 ≤ i) (h1 : i ≤ 9223372036854775807) (w : World) (hb : CodeAt w g) :
    Calls Try.prog 14 #[.pointer (some ⟨g, 0, none⟩), .int .i64 i] w fun e w' => e = .returned (.int .u8 (colI i : Int)) ∧ w = w' := by
  by_cases hi : 0 ≤ i
  · obtain ⟨k, rfl⟩ := Int.eq_ofNat_of_zero_le hi
    by_cases hk : k < 74
    · have hc := hb.col hk
      have HE := Lib.hid (show colI (k : Int) = col k by unfold colI; rw [if_pos (by omega)]; rfl)
      obtain ⟨x, hx⟩ : ∃ x, col k = x := ⟨_, rfl⟩
      rw [hx] at hc
      have HX := Lib.hid hx
      clear hx hb
      have i1 : (k : Int) < 74 := by omega
      go_enter Try.func14, Try.ntmps14
      go_wp2
      go_ret
      exact ⟨by rw [HE.out, HX.out]; rfl, rfl⟩
    · have HE := Lib.hid (show colI (k : Int) = 0 by unfold colI; rw [if_neg (by omega)])
      have i1 : ¬ (k : Int) < 74 := by omega
      clear hb
      go_enter Try.func14, Try.ntmps14
      go_wp2
      go_ret
      exact ⟨by rw [HE.out]; rfl, rfl⟩
  · have HE := Lib.hid (show colI i = 0 by unfold colI; rw [if_neg (by omega)])
    clear hb
    go_enter Try.func14, Try.ntmps14
    go_wp2
    go_ret
    exact ⟨by rw [HE.out]; rfl, rfl⟩

set_option maxRecDepth 100000 in
theorem classify_any (g : Nat) (s : Nat) (hs : s < 256) (w : World) (hb : CodeAt w g) :
    Calls Try.prog 18 #[.pointer (some ⟨g, 0, none⟩), .int .u8 (s : Int)] w fun e w' => e = .returned (.tuple #[.int .i64 ((verdict s).1 : Nat), .int .i64 (verdict s).2]) ∧ w = w' := by
  by_cases h0 : s = 0
  · subst h0
    clear hb
    go_enter Try.func18, Try.ntmps18
    go_wp2
    go_ret2
    exact ⟨rfl, rfl⟩
  · have hc := hb.at hs
    have hv : verdict s = if atS s = -1 then (4, -1) else if atS s = 72 then (3, -1) else if atS s = 73 then (2, -1) else (1, atS s) := by unfold verdict; rw [if_neg h0]
    obtain ⟨t, ht⟩ : ∃ t, atS s = t := ⟨_, rfl⟩
    have hall := at_all hs
    rw [ht] at hc hv hall
    have i1 : (s : Int) < 256 := by omega
    have z1 : ((s : Int) == 0) = false := by rw [beq_eq_false_iff_ne]; omega
    have HV := Lib.hid hv
    clear hv ht hb
    by_cases c1 : t = -1
    · subst c1
      clear hall
      have HV2 := Lib.hid (HV.out.trans (if_pos rfl))
      go_enter Try.func18, Try.ntmps18
      go_wp2
      go_ret2
      exact ⟨by rw [HV2.out]; rfl, rfl⟩
    · by_cases c2 : t = 72
      · subst c2
        clear hall
        have HV2 := Lib.hid (show verdict s = (3, -1) by rw [HV.out]; rfl)
        go_enter Try.func18, Try.ntmps18
        go_wp2
        go_ret2
        exact ⟨by rw [HV2.out]; rfl, rfl⟩
      · by_cases c3 : t = 73
        · subst c3
          clear hall
          have HV2 := Lib.hid (show verdict s = (2, -1) by rw [HV.out]; rfl)
          go_enter Try.func18, Try.ntmps18
          go_wp2
          go_ret2
          exact ⟨by rw [HV2.out]; rfl, rfl⟩
        · have HV2 := Lib.hid (HV.out.trans (by rw [if_neg c1, if_neg c2, if_neg c3]))
          have q1 : (t == -1) = false := by rw [beq_eq_false_iff_ne]; exact c1
          have q2 : (t == 72) = false := by rw [beq_eq_false_iff_ne]; exact c2
          have q3 : (t == 73) = false := by rw [beq_eq_false_iff_ne]; exact c3
          clear hall c1 c2 c3
          go_enter Try.func18, Try.ntmps18
          go_wp2
          go_ret2
          exact ⟨by rw [HV2.out]; rfl, rfl⟩
end Go.Proofs.Ytbhonojfglhbeaa
