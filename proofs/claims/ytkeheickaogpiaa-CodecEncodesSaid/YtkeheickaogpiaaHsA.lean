/- Several texts in one: HsM HsW HsN HsC HsD HsT HsL HsR HsA. -/
import Derived.Test.YtkeheickaogpiaaBtA
import Derived.Test.YtkeheickaogpiaaGfA
import Derived.Test.YtkeheickaogpiaaRfA
import Derived.WalkKit
import Derived.WalkSpells
import Derived.WalkLawsBesides
import Derived.Lib.Hide
import Derived.Deep.QuietTactic
import Derived.BigQuiet
import Derived.RegionTactic
import Derived.ChangeAlike
import Derived.Sort.BigQuietIn
import Derived.Sort.CutIn
import Derived.Lib.Agree
import Derived.OpenShut
import Derived.Laws.Rows
import Derived.Deep.WholeRow
import Derived.Test.YtkeheickaogpiaaOwA
import Derived.Laws.CopyRow
namespace Go.Proofs.Ytkeheickaogpiaa.Hs
/-- Columns, and whose each one is; a bit is given its column. -/
def hput (s : List Nat × List Int) (i x : Nat) : List Nat × List Int := (s.1.set i x, s.2.set x (i : Int))
def hst0 : List Nat × List Int := (List.replicate 74 0, List.replicate 256 (-1))
def hA : Nat → List Nat × List Int
  | 0 => hst0
  | k + 1 => hput (hA k) (64 + k) (2 ^ k)
def hB : Nat → List Nat × List Int
  | 0 => hA 8
  | k + 1 => hput (hB k) k ((choose 8 3).getD k 0)
def place5 (k : Nat) : Nat := if k < 8 then 56 + k else 64 + k
def hC : Nat → List Nat × List Int
  | 0 => hB 56
  | k + 1 => hput (hC k) (place5 k) ((choose 8 5).getD k 0)
def hcols : List Nat := (hC 10).1
def hats : List Int := (hC 10).2
theorem hput_len (s : List Nat × List Int) (i x : Nat) : (hput s i x).1.length = s.1.length ∧ (hput s i x).2.length = s.2.length := ⟨List.length_set, List.length_set⟩
theorem hA_len (k : Nat) : (hA k).1.length = 74 ∧ (hA k).2.length = 256 := by
  induction k with
  | zero => exact ⟨List.length_replicate, List.length_replicate⟩
  | succ k ih => rw [hA]; exact ⟨(hput_len _ _ _).1.trans ih.1, (hput_len _ _ _).2.trans ih.2⟩
theorem hB_len (k : Nat) : (hB k).1.length = 74 ∧ (hB k).2.length = 256 := by
  induction k with
  | zero => exact hA_len 8
  | succ k ih => rw [hB]; exact ⟨(hput_len _ _ _).1.trans ih.1, (hput_len _ _ _).2.trans ih.2⟩
theorem hC_len (k : Nat) : (hC k).1.length = 74 ∧ (hC k).2.length = 256 := by
  induction k with
  | zero => exact hB_len 56
  | succ k ih => rw [hC]; exact ⟨(hput_len _ _ _).1.trans ih.1, (hput_len _ _ _).2.trans ih.2⟩
theorem choose83_len : (choose 8 3).length = 56 := by decide +kernel
theorem choose85_len : (choose 8 5).length = 56 := by decide +kernel
theorem hcols_len : hcols.length = 74 := (hC_len 10).1
def col (i : Nat) : Nat := hcols.getD i 0
def atS (s : Nat) : Int := hats.getD s (-1)
def hcolL : List Nat := [7, 11, 13, 14, 19, 21, 22, 25, 26, 28, 35, 37, 38, 41, 42, 44, 49, 50, 52, 56, 67, 69, 70, 73, 74, 76, 81, 82, 84, 88, 97, 98, 100, 104, 112, 131, 133, 134, 137, 138, 140, 145, 146, 148, 152, 161, 162, 164, 168, 176, 193, 194, 196, 200, 208, 224, 31, 47, 55, 59, 61, 62, 79, 87, 1, 2, 4, 8, 16, 32, 64, 128, 91, 93]
theorem hcols_eq : hcols = hcolL := by decide +kernel
theorem hcols_lt : ∀ i, i < 74 → hcolL.getD i 0 < 256 ∧ 0 < hcolL.getD i 0 := by decide +kernel
theorem col_lt (i : Nat) : col i < 256 := by
  rcases Nat.lt_or_ge i 74 with h | h
  · unfold col; rw [hcols_eq]; exact (hcols_lt i h).1
  · unfold col; rw [List.getD_eq_getElem?_getD, List.getElem?_eq_none (by rw [hcols_len]; exact h)]; decide
theorem col_pos {i : Nat} (h : i < 74) : 0 < col i := by unfold col; rw [hcols_eq]; exact (hcols_lt i h).2
theorem at_col0 : ∀ i, i < 74 → hats.getD (hcolL.getD i 0) (-1) = (i : Int) := by decide +kernel
theorem at_col {i : Nat} (h : i < 74) : atS (col i) = (i : Int) := by unfold atS col; rw [hcols_eq]; exact at_col0 i h
theorem at_all0 : ∀ s, s < 256 → hats.getD s (-1) = -1 ∨ (0 ≤ hats.getD s (-1) ∧ hats.getD s (-1) < 74 ∧ hcolL.getD (hats.getD s (-1)).toNat 0 = s) := by decide +kernel
theorem at_all {s : Nat} (h : s < 256) : atS s = -1 ∨ (0 ≤ atS s ∧ atS s < 74 ∧ col (atS s).toNat = s) := by
  unfold atS col; rw [hcols_eq]; exact at_all0 s h
theorem col_check0 : ∀ j, j < 8 → hcolL.getD (64 + j) 0 = 2 ^ j := by decide +kernel
theorem col_check {j : Nat} (h : j < 8) : col (64 + j) = 2 ^ j := by unfold col; rw [hcols_eq]; exact col_check0 j h

/-- The exclusive or of the columns of ones, r bits of z from column k on. -/
def csTo : Nat → Nat → Nat → Nat
  | 0, _, _ => 0
  | r + 1, k, z => (if z % 2 = 1 then col k else 0) ^^^ csTo r (k + 1) (z / 2)
def cs (d : Nat) : Nat := csTo 64 0 d
theorem xif (P : Prop) [Decidable P] (c : Nat) (h : c < 256) : (if P then c else 0) < 256 := by split <;> omega
theorem csTo_lt (r : Nat) : ∀ k z, csTo r k z < 256 := by
  induction r with
  | zero => intro k z; exact Nat.zero_lt_succ _
  | succ r ih => intro k z; rw [csTo]; exact Nat.xor_lt_two_pow (n := 8) (xif _ _ (col_lt k)) (ih _ _)
theorem bit_xor (a b c : Nat) : (if (a ^^^ b) % 2 = 1 then c else 0) = (if a % 2 = 1 then c else 0) ^^^ (if b % 2 = 1 then c else 0) := by
  rw [xor_odd]
  rcases Nat.mod_two_eq_zero_or_one a with ha | ha <;> rcases Nat.mod_two_eq_zero_or_one b with hb | hb <;> rw [ha, hb] <;> simp
theorem nxl (a b c : Nat) : a ^^^ (b ^^^ c) = b ^^^ (a ^^^ c) := by rw [← Nat.xor_assoc, Nat.xor_comm a b, Nat.xor_assoc]
theorem csTo_xor (r : Nat) : ∀ k a b, csTo r k (a ^^^ b) = csTo r k a ^^^ csTo r k b := by
  induction r with
  | zero => intro k a b; simp [csTo]
  | succ r ih =>
    intro k a b
    rw [csTo, csTo, csTo, bit_xor, xor_half, ih]
    simp only [Nat.xor_assoc, nxl]
theorem cs_xor (a b : Nat) : cs (a ^^^ b) = cs a ^^^ cs b := csTo_xor 64 0 a b
theorem cs_lt (d : Nat) : cs d < 256 := csTo_lt 64 0 d
theorem csTo_zero (r : Nat) : ∀ k, csTo r k 0 = 0 := by
  induction r with
  | zero => intro k; rfl
  | succ r ih => intro k; rw [csTo]; simp [ih]
theorem csTo_pow (r : Nat) : ∀ k i, i < r → csTo r k (2 ^ i) = col (k + i) := by
  induction r with
  | zero => intro k i h; omega
  | succ r ih =>
    intro k i h
    rw [csTo]
    cases i with
    | zero => simp [csTo_zero]
    | succ i =>
      have h2 : 2 ^ (i + 1) % 2 = 0 := by rw [Nat.pow_succ]; omega
      have h3 : 2 ^ (i + 1) / 2 = 2 ^ i := by rw [Nat.pow_succ]; omega
      rw [h2, h3, ih (k + 1) i (by omega), if_neg (by decide), Nat.zero_xor]
      congr 1; omega
theorem cs_pow {i : Nat} (h : i < 64) : cs (2 ^ i) = col i := by unfold cs; rw [csTo_pow 64 0 i h, Nat.zero_add]
/-- The fold over the ones. -/
def xfold (s : Nat) (l : List Nat) : Nat := l.foldl (fun s i => s ^^^ col i) s
theorem xfold_ones (r : Nat) : ∀ k z s, xfold s (onesTo r k z) = s ^^^ csTo r k z := by
  induction r with
  | zero => intro k z s; simp [onesTo, csTo, xfold]
  | succ r ih =>
    intro k z s
    rw [onesTo, csTo]
    split
    · show xfold (s ^^^ col k) _ = _
      rw [ih, Nat.xor_assoc]
    · rw [ih, Nat.zero_xor]
theorem xfold_snoc (s : Nat) (l : List Nat) (i : Nat) : xfold s (l ++ [i]) = xfold s l ^^^ col i := by simp [xfold]

/-- Check bits; a syndrome. -/
def mark (a c : Nat) : Nat := if a % 2 = 1 then col c else 0
def chk (d a p : Nat) : Nat := cs d ^^^ mark a 72 ^^^ mark p 73
theorem mark_lt (a c : Nat) : mark a c < 256 := xif _ _ (col_lt c)
theorem mark_xor (a b c : Nat) : mark (a ^^^ b) c = mark a c ^^^ mark b c := bit_xor a b _
theorem chk_lt (d a p : Nat) : chk d a p < 256 := Nat.xor_lt_two_pow (n := 8) (Nat.xor_lt_two_pow (n := 8) (cs_lt d) (mark_lt a 72)) (mark_lt p 73)
/-- A verdict and a place. -/
def verdict (s : Nat) : Nat × Int :=
  if s = 0 then (0, -1) else if atS s = -1 then (4, -1) else if atS s = 72 then (3, -1) else if atS s = 73 then (2, -1) else (1, atS s)
end Go.Proofs.Ytkeheickaogpiaa.Hs
namespace Go.Proofs.Ytkeheickaogpiaa.Hs
open Go.RowKit

def codeCells (s : List Nat × List Int) : Array Value := (s.1.map (fun x => Value.int .u8 (x : Nat)) ++ s.2.map (fun x => Value.int .i64 x)).toArray
theorem codeCells_col {s : List Nat × List Int} (h : s.1.length = 74) {i : Nat} (hi : i < 74) : (codeCells s)[i]? = some (.int .u8 (s.1.getD i 0 : Nat)) := by
  unfold codeCells
  rw [List.getElem?_toArray, List.getElem?_append_left (by rw [List.length_map, h]; exact hi), List.getElem?_map, List.getD_eq_getElem?_getD, List.getElem?_eq_getElem (by rw [h]; exact hi)]
  rfl
theorem codeCells_at {s : List Nat × List Int} (h : s.1.length = 74) (h2 : s.2.length = 256) {x : Nat} (hx : x < 256) : (codeCells s)[74 + x]? = some (.int .i64 (s.2.getD x (-1))) := by
  unfold codeCells
  rw [List.getElem?_toArray, List.getElem?_append_right (by rw [List.length_map, h]; omega), List.length_map, h, Nat.add_sub_cancel_left, List.getElem?_map, List.getD_eq_getElem?_getD, List.getElem?_eq_getElem (by rw [h2]; exact hx)]
  rfl
theorem codeCells_set1 {s : List Nat × List Int} (h : s.1.length = 74) {i : Nat} (hi : i < 74) (x : Nat) : (codeCells s).setIfInBounds i (.int .u8 (x : Nat)) = codeCells (s.1.set i x, s.2) := by
  unfold codeCells
  rw [List.setIfInBounds_toArray, List.set_append_left _ _ (by rw [List.length_map, h]; exact hi), List.map_set]
theorem codeCells_set2 {s : List Nat × List Int} (h : s.1.length = 74) (x : Nat) (v : Int) : (codeCells s).setIfInBounds (74 + x) (.int .i64 v) = codeCells (s.1, s.2.set x v) := by
  unfold codeCells
  rw [List.setIfInBounds_toArray, List.set_append_right _ _ (by rw [List.length_map, h]; omega), List.length_map, h, Nat.add_sub_cancel_left, List.map_set]

/-- Block g holds the code. -/
def CodeAt (w : World) (g : Nat) : Prop := Blk w g 102 (codeCells (hC 10))
theorem CodeAt.col {w : World} {g : Nat} (h : CodeAt w g) {i : Nat} (hi : i < 74) : w.cell? ⟨g, i, none⟩ = some (.int .u8 (col i : Nat)) := by
  rw [Blk.cell h, codeCells_col (hC_len 10).1 hi]; rfl
theorem CodeAt.at {w : World} {g : Nat} (h : CodeAt w g) {x : Nat} (hx : x < 256) : w.cell? ⟨g, 74 + x, none⟩ = some (.int .i64 (atS x)) := by
  rw [Blk.cell h, codeCells_at (hC_len 10).1 (hC_len 10).2 hx]; rfl

set_option maxRecDepth 100000 in
theorem put_any (g : Nat) (s : List Nat × List Int) (h1 : s.1.length = 74) (h2 : s.2.length = 256) (i x : Nat) (hi : i < 74) (hx : x < 256) (w : World) (hb : Blk w g 102 (codeCells s)) :
    Calls Try.prog 69 #[.pointer (some ⟨g, 0, none⟩), .int .i64 (i : Int), .int .u8 (x : Int)] w fun e w' => e = .returned (.tuple #[]) ∧ Blk w' g 102 (codeCells (hput s i x)) ∧ Turn (fun b => b = g) w w' := by
  have c1 : w.cell? ⟨g, i, none⟩ = some (.int .u8 (s.1.getD i 0 : Nat)) := by rw [hb.cell, codeCells_col h1 hi]
  have c2 : w.cell? ⟨g, 74 + x, none⟩ = some (.int .i64 (s.2.getD x (-1))) := by rw [hb.cell, codeCells_at h1 h2 hx]
  have f1 := hb.frozen i
  have f2 := hb.frozen (74 + x)
  have hne : ¬ (74 + x = i) := by omega
  have hne2 : ¬ (i = 74 + x) := by omega
  have i1 : (i : Int) < 74 := by omega
  have i2 : (x : Int) < 256 := by omega
  have HB := Lib.hid hb
  have H1 := Lib.hid h1
  have H2 := Lib.hid h2
  clear hb h1 h2
  go_enter Try.func69, Try.ntmps69
  go_wp2
  go_region
  all_goals
    go_end0
    refine ⟨rfl, ?_, (Turn.setCell (S := fun b => b = g) w (p := ⟨g, i, none⟩) rfl _).trans ((Turn.setCell (S := fun b => b = g) _ (p := ⟨g, 74 + x, none⟩) rfl _).trans (Turn.drewN _ _ 1))⟩
    have h := ((HB.out.set_ i (.int .u8 (x : Int))).set_ (74 + x) (.int .i64 (i : Int))).drewN 1
    rw [codeCells_set1 H1.out hi, codeCells_set2 (by rw [List.length_set]; exact H1.out)] at h
    exact h

/-- The column of any number. -/
def colI (i : Int) : Nat := if 0 ≤ i ∧ i < 74 then col i.toNat else 0
set_option maxRecDepth 100000 in
theorem classify_any (g : Nat) (s : Nat) (hs : s < 256) (w : World) (hb : CodeAt w g) :
    Calls Try.prog 93 #[.pointer (some ⟨g, 0, none⟩), .int .u8 (s : Int)] w fun e w' => e = .returned (.tuple #[.int .i64 ((verdict s).1 : Nat), .int .i64 (verdict s).2]) ∧ w = w' := by
  by_cases h0 : s = 0
  · subst h0
    clear hb
    go_enter Try.func93, Try.ntmps93
    go_wp2
    go_ret2
    exact ⟨rfl, rfl⟩
  · have hc := hb.at hs
    have hv : verdict s = if atS s = -1 then (4, -1) else if atS s = 72 then (3, -1) else if atS s = 73 then (2, -1) else (1, atS s) := by unfold verdict; rw [if_neg h0]
    obtain ⟨t, ht⟩ : ∃ t, atS s = t := ⟨_, rfl⟩
    have hall := at_all hs
    rw [ht] at hc hv hall
    have i1 : (s : Int) < 256 := by omega
    have z1 : ((s : Int) == 0) = false := by rw [beq_eq_false_iff_ne]; omega
    have HV := Lib.hid hv
    clear hv ht hb
    by_cases c1 : t = -1
    · subst c1
      clear hall
      have HV2 := Lib.hid (HV.out.trans (if_pos rfl))
      go_enter Try.func93, Try.ntmps93
      go_wp2
      go_ret2
      exact ⟨by rw [HV2.out]; rfl, rfl⟩
    · by_cases c2 : t = 72
      · subst c2
        clear hall
        have HV2 := Lib.hid (show verdict s = (3, -1) by rw [HV.out]; rfl)
        go_enter Try.func93, Try.ntmps93
        go_wp2
        go_ret2
        exact ⟨by rw [HV2.out]; rfl, rfl⟩
      · by_cases c3 : t = 73
        · subst c3
          clear hall
          have HV2 := Lib.hid (show verdict s = (2, -1) by rw [HV.out]; rfl)
          go_enter Try.func93, Try.ntmps93
          go_wp2
          go_ret2
          exact ⟨by rw [HV2.out]; rfl, rfl⟩
        · have HV2 := Lib.hid (HV.out.trans (by rw [if_neg c1, if_neg c2, if_neg c3]))
          have q1 : (t == -1) = false := by rw [beq_eq_false_iff_ne]; exact c1
          have q2 : (t == 72) = false := by rw [beq_eq_false_iff_ne]; exact c2
          have q3 : (t == 73) = false := by rw [beq_eq_false_iff_ne]; exact c3
          clear hall c1 c2 c3
          go_enter Try.func93, Try.ntmps93
          go_wp2
          go_ret2
          exact ⟨by rw [HV2.out]; rfl, rfl⟩
end Go.Proofs.Ytkeheickaogpiaa.Hs
namespace Go.Proofs.Ytkeheickaogpiaa.Hs
open Go.RowKit Go.Shelf
attribute [local go_sem] Oper.semAt_some

/-- The block behind k rounds of the first loop. -/
def cellsH (k : Nat) : Array Value := codeCells (List.replicate 74 0, List.replicate k (-1) ++ List.replicate (256 - k) 0)
theorem cellsH_succ {k : Nat} (h : k < 256) : (cellsH k).setIfInBounds (74 + k) (.int .i64 (-1)) = cellsH (k + 1) := by
  unfold cellsH
  rw [codeCells_set2 (by rw [List.length_replicate])]
  obtain ⟨m, hm⟩ : ∃ m, 256 - k = m + 1 := ⟨256 - k - 1, by omega⟩
  have h2 : (List.replicate k (-1 : Int) ++ List.replicate (256 - k) 0).set k (-1) = List.replicate (k + 1) (-1) ++ List.replicate (256 - (k + 1)) 0 := by
    rw [List.set_append_right _ _ (by rw [List.length_replicate]; omega), List.length_replicate, Nat.sub_self, hm, show 256 - (k + 1) = m by omega, show List.replicate (m + 1) (0 : Int) = 0 :: List.replicate m 0 from rfl, List.set_cons_zero, List.replicate_succ' (n := k), List.append_assoc]
    rfl
  exact congrArg (fun l => codeCells (List.replicate 74 0, l)) h2
theorem cellsH_all : cellsH 256 = codeCells hst0 := by
  unfold cellsH hst0
  rw [Nat.sub_self, List.replicate_zero, List.append_nil]
theorem cellsH_get {k j : Nat} (h : j < 256) (hk : k ≤ 256) : ∃ v, (cellsH k)[74 + j]? = some v := by
  unfold cellsH
  exact ⟨_, codeCells_at (List.length_replicate ..) (by simp; omega) h⟩
/-- The number ahead of round i of the last loop. -/
def iv (i : Nat) : Nat := if i ≤ 8 then 56 + i else 64 + i
theorem zeroCode (w : World) : (zeroValue 102).run Try.prog w = .ok (.agg (cellsH 0)) w := by kernel_rfl
theorem boxCode (w : World) : (Instr.box 102 (.agg (cellsH 0))).run Try.prog w = .ok (.pointer (some ⟨w.heap.size, 0, none⟩)) (w.alloc (.cells (cellsH 0) 102)) := by kernel_rfl

set_option maxRecDepth 100000 in
set_option maxHeartbeats 2000000 in
theorem new_any (w : World) :
    Calls Try.prog 46 #[] w fun e w' => e = .returned (.pointer (some ⟨w.heap.size, 0, none⟩)) ∧ CodeAt w' w.heap.size ∧ Below w.heap.size w w' := by
  have hz := zeroCode
  have hb := boxCode
  refine (callsIn_wide (n := 6)).1 ?_
  refine callsIn_of_wp_marks Try.func46 rfl trivial ?_ rfl
  simp only [Try.ntmps46, List.size_toArray, List.length_nil, Nat.reduceSub, Array.replicate_succ, Array.replicate_zero, List.push_toArray, List.append_toArray, List.nil_append, List.cons_append]
  gi_wp2
  clear hz hb
  obtain ⟨b0, hb0⟩ : ∃ b0, w.heap.size = b0 := ⟨_, rfl⟩
  obtain ⟨W0, hW0⟩ : ∃ W0, (w.alloc (.cells (cellsH 0) 102)).alloc (.cells #[.pointer (some ⟨w.heap.size, 0, none⟩)] 58) = W0 := ⟨_, rfl⟩
  rw [hW0, hb0]
  have k0 : Blk W0 b0 102 (cellsH 0) := by rw [← hW0, ← hb0]; exact (Blk.new w _ _).alloc _
  have k1 : Blk W0 (b0 + 1) 58 #[.pointer (some ⟨b0, 0, none⟩)] := by
    rw [← hW0, ← hb0]; have h := Blk.new (w.alloc (.cells (cellsH 0) 102)) 58 #[.pointer (some ⟨w.heap.size, 0, none⟩)]
    rw [World.size_alloc] at h; exact h
  have kb : Below b0 w W0 := by rw [← hW0, ← hb0]; exact ((Below.refl _ w).alloc (Nat.le_refl _) _).alloc (by simp) _
  have kz : b0 + 2 ≤ W0.heap.size := by rw [← hW0, ← hb0]; simp
  have HB0 := Lib.hid hb0
  have K0 := Lib.hid k0
  have K1 := Lib.hid k1
  have KB := Lib.hid kb
  have KZ := Lib.hid kz
  clear hW0 hb0 k0 k1 kb kz
  gi_loopw [9] (fun i wr => ∃ k : Nat, k ≤ 256 ∧ i = .int .i64 k ∧ Blk wr b0 102 (cellsH k) ∧ Blk wr (b0 + 1) 58 #[.pointer (some ⟨b0, 0, none⟩)] ∧ Below b0 w wr ∧ b0 + 2 ≤ wr.heap.size) (fun i _ => 256 - (intOf i).toNat)
  case atStart => exact ⟨0, by omega, rfl, K0.out, K1.out, KB.out, KZ.out⟩
  case round =>
    obtain ⟨k, hk, rfl, h0, h1, h2, h3⟩ := hrel
    clear K0 K1 KB KZ
    have e1 := h1.cell 0
    simp only [List.getElem?_toArray, List.getElem?_cons_zero] at e1
    by_cases hlt : k < 256
    · obtain ⟨v, hv⟩ := cellsH_get hlt hk
      have e0 : wr.cell? ⟨b0, 74 + k, none⟩ = some v := by rw [h0.cell]; exact hv
      have f0 := h0.frozen (74 + k)
      have i1 : (k : Int) < 256 := by omega
      have HI := Lib.hid (And.intro h0 (And.intro h1 (And.intro h2 h3)))
      clear h0 h1 h2 h3 hv
      gi_wp2
      go_roundw
      case rel =>
        obtain ⟨h0, h1, h2, h3⟩ := HI.out
        refine ⟨k + 1, by omega, by go_num, ?_, h1.far (p := ⟨b0, 74 + k, none⟩) (by show b0 + 1 ≠ b0; omega) _, h2.setCell (p := ⟨b0, 74 + k, none⟩) (Nat.le_refl _) _, by simp [World.setCell]; exact h3⟩
        rw [← cellsH_succ hlt]; exact h0.set_ (74 + k) _
      case measure => simp [intOf]; omega
    · obtain rfl : k = 256 := by omega
      rw [show ((256 : Nat) : Int) = 256 from rfl]
      rw [cellsH_all] at h0
      have h0' : Blk wr b0 102 (codeCells (hA 0)) := h0
      obtain ⟨wo, hwo⟩ : ∃ wo : World, wo = wr := ⟨_, rfl⟩
      subst hwo
      have K0 := Lib.hid h0'
      have K1 := Lib.hid h1
      have KB := Lib.hid h2
      have KZ := Lib.hid h3
      clear h0 h0' h1 h2 h3 e1
      gi_wp2
      gi_loopw [18] (fun i wr => ∃ k : Nat, k ≤ 8 ∧ i = .int .i64 k ∧ Blk wr b0 102 (codeCells (hA k)) ∧ Blk wr (b0 + 1) 58 #[.pointer (some ⟨b0, 0, none⟩)] ∧ Below b0 w wr ∧ b0 + 2 ≤ wr.heap.size) (fun i _ => 8 - (intOf i).toNat)
      case atStart => exact ⟨0, by omega, rfl, K0.out, K1.out, KB.out, KZ.out⟩
      case round =>
        obtain ⟨k, hk, rfl, h0, h1, h2, h3⟩ := hrel
        clear K0 K1 KB KZ
        have e1 := h1.cell 0
        simp only [List.getElem?_toArray, List.getElem?_cons_zero] at e1
        by_cases hlt : k < 8
        · have hpw : 2 ^ k < 256 := (Nat.pow_lt_pow_right (by decide) hlt : 2 ^ k < 2 ^ 8)
          have hp2 : IntKind.u8.wrap ((2 : Int) ^ k) = ((2 ^ k : Nat) : Int) := by
            rw [show ((2 : Int) ^ k) = ((2 ^ k : Nat) : Int) by simp]; exact (fun P h => IntWalk.u8_in _ (by omega) : ∀ P : Nat, P < 256 → IntKind.u8.wrap (P : Int) = P) _ hpw
          have PA := put_any b0 (hA k) (hA_len k).1 (hA_len k).2 (64 + k) (2 ^ k) (by omega) hpw wr h0
          push_cast at PA
          have HPA := Lib.hid PA
          have HI := Lib.hid (And.intro h1 (And.intro h2 h3))
          clear h0 h1 h2 h3 PA
          gi_wp2_with fail
          refine ⟨trivial, ?_⟩
          refine (callsIn_wide.2 HPA.out).mono ?_
          rintro e W ⟨rfl, hb, ht⟩
          have HBT := Lib.hid (And.intro hb ht)
          clear hb ht hp2
          gi_wp2
          go_roundw
          case rel =>
            obtain ⟨h1, h2, h3⟩ := HI.out
            obtain ⟨hb, ht⟩ := HBT.out
            exact ⟨k + 1, by omega, by go_num, hb, ht.heap (by omega) h1, h2.trans (ht.below (by omega) (fun b hb => by omega)), Nat.le_trans h3 ht.size⟩
          case measure => simp [intOf]; omega
        · obtain rfl : k = 8 := by omega
          rw [show ((8 : Nat) : Int) = 8 from rfl]
          obtain ⟨wo, hwo⟩ : ∃ wo : World, wo = wr := ⟨_, rfl⟩
          subst hwo
          obtain ⟨bi, hbi⟩ : ∃ bi, wo.heap.size = bi := ⟨_, rfl⟩
          have d1 : ∀ o, (wo.alloc o).cell? ⟨b0 + 1, 0, none⟩ = some (.pointer (some ⟨b0, 0, none⟩)) := fun o => (h1.alloc o).cell 0
          have K0 := Lib.hid h0
          have K1 := Lib.hid h1
          have KB := Lib.hid h2
          have KZ := Lib.hid h3
          clear h0 h1 h2 h3 e1
          gi_wp2_with fail
          refine ⟨trivial, ?_⟩
          refine (callsIn_wide.2 (choose8_any _ _ _)).mono ?_
          rintro e w3 ⟨rfl, hw3⟩
          simp only [World.size_alloc] at hw3 ⊢
          have V0 : Blk w3 b0 102 (codeCells (hB 0)) := by rw [hw3]; exact ((K0.out.alloc _).alloc _).alloc _
          have V1 : Blk w3 (b0 + 1) 58 #[.pointer (some ⟨b0, 0, none⟩)] := by rw [hw3]; exact ((K1.out.alloc _).alloc _).alloc _
          have V2 : Blk w3 bi 3 #[.int .i64 0] := by rw [hw3, ← hbi]; exact ((Blk.new wo _ _).alloc _).alloc _
          have V3 : Blk w3 (bi + 1) 3 #[.int .i64 8] := by
            rw [hw3, ← hbi]; have h := (Blk.new (wo.alloc (.cells #[.int .i64 0] 3)) 3 #[.int .i64 8]).alloc (.cells #[.int .i64 3] 3)
            rw [World.size_alloc] at h; exact h
          have V4 : Blk w3 (bi + 2) 3 #[.int .i64 3] := by
            rw [hw3, ← hbi]; have h := (Blk.new ((wo.alloc (.cells #[.int .i64 0] 3)).alloc (.cells #[.int .i64 8] 3)) 3 #[.int .i64 3])
            rw [World.size_alloc, World.size_alloc] at h; exact h
          have VB : Below b0 w w3 := by
            rw [hw3]; have := KB.out.size; have := HB0.out; exact ((KB.out.alloc (by omega) _).alloc (by simp; omega) _).alloc (by simp; omega) _
          have VZ : w3.heap.size = bi + 3 := by rw [hw3, ← hbi]; simp
          have lb : b0 + 2 ≤ bi := by rw [← hbi]; exact KZ.out
          rw [hbi]
          have W0 := Lib.hid V0
          have W1 := Lib.hid V1
          have W2 := Lib.hid V2
          have W3 := Lib.hid V3
          have W4 := Lib.hid V4
          have WB := Lib.hid VB
          have WZ := Lib.hid VZ
          clear K0 K1 KB KZ V0 V1 V2 V3 V4 VB VZ d1 hw3 hbi
          gi_wp2
          refine iter_law (n := 6) rfl (by omega) (gf := 86) (lb := #[.pointer (some ⟨bi + 2, 0, none⟩), .pointer (some ⟨bi + 1, 0, none⟩)]) rfl trivial (enters_of Try.func86 (by kernel_rfl) rfl)
            (choose8_iter (6 - 1) (by omega) (bi + 1) (bi + 2) 8 3 (by omega) (by omega)) ?hSt (fun _ h => h.elim) ?hKl (fun _ => rfl)
            (fun i U => Blk U b0 102 (codeCells (hB i)) ∧ Blk U (b0 + 1) 58 #[.pointer (some ⟨b0, 0, none⟩)] ∧ Blk U bi 3 #[.int .i64 (i : Int)] ∧ Below b0 w U ∧ bi + 3 ≤ U.heap.size)
            (fun _ _ _ => False)
            ?hI (fun _ _ _ _ h _ => h.elim) ?h0 ?act1 ?assign ?body ?done (fun _ _ _ _ _ _ h _ => h.elim)
          case hSt =>
            intro U hU
            have wz := WZ.out
            exact ⟨by rw [World.cell?_of_block (a := ⟨bi + 1, 0, none⟩) (hU (bi + 1) (by omega))]; exact W3.out.cell 0, by rw [World.cell?_of_block (a := ⟨bi + 2, 0, none⟩) (hU (bi + 2) (by omega))]; exact W4.out.cell 0⟩
          case hKl => have wz := WZ.out; rintro b (rfl | rfl) <;> omega
          case hI =>
            rintro i A B ⟨h0, h1, h2, h3, h4⟩ t
            have wz := WZ.out
            have k := fun {b : Nat} {cs : Array Value} {ty : TypeId} (h : Blk A b ty cs) => (t.heap (other_cells h (fun e => e)) h : Blk B b ty cs)
            exact ⟨k h0, k h1, k h2, h3.trans (t.below (by have := h3.size; have := HB0.out; omega) (fun b hb => by rcases hb with hb | ⟨hb, _⟩; exact hb.elim; omega)), Nat.le_trans h4 t.size⟩
          case h0 => exact ⟨W0.out, W1.out, W2.out, WB.out, by have := WZ.out; omega⟩
          case assign =>
            intro l x W K hK
            gi_wp2
            exact hK
          case body =>
            rintro l i x U hx ⟨h0, h1, h2, h3, h4⟩
            have hil : i < 56 := by have := (List.getElem?_eq_some_iff.1 hx).1; rw [choose83_len] at this; exact this
            have hxl : x < 256 := by
              have hm := chTo_mem (2 ^ 8) 0 3 x (List.mem_of_getElem? hx)
              have : (2 : Nat) ^ 8 = 256 := rfl
              omega
            have hg : (choose 8 3).getD i 0 = x := by rw [List.getD_eq_getElem?_getD, hx]; rfl
            have PA := put_any b0 (hB i) (hB_len i).1 (hB_len i).2 i x (by omega) hxl U h0
            have hst : hput (hB i) i x = hB (i + 1) := by rw [hB, hg]
            rw [hst] at PA
            have e1 := h1.cell 0
            have e2 := h2.cell 0
            have f2 := h2.frozen 0
            simp only [List.getElem?_toArray, List.getElem?_cons_zero] at e1 e2
            have HPA := Lib.hid PA
            have HI := Lib.hid (And.intro h1 (And.intro h2 (And.intro h3 h4)))
            clear h0 h1 h2 h3 h4 PA hst hg hx
            gi_wp2_with fail
            refine ⟨trivial, ?_⟩
            refine (CallsIn.inRound l (callsIn_wide.2 HPA.out)).mono ?_
            rintro e W ⟨rfl, hb, ht⟩
            obtain ⟨h1, h2, h3, h4⟩ := HI.out
            have m2 : Blk W bi 3 #[.int .i64 (i : Int)] := ht.heap (by omega) h2
            have e2 := m2.cell 0
            have f2 := m2.frozen 0
            simp only [List.getElem?_toArray, List.getElem?_cons_zero] at e2
            have HBT := Lib.hid (And.intro hb (And.intro ht m2))
            clear hb ht m2 h1 h2 h3 h4
            gi_wp2
            obtain ⟨h1, h2, h3, h4⟩ := HI.out
            obtain ⟨hb, ht, m2⟩ := HBT.out
            have hlt : b0 < U.heap.size := by omega
            refine ⟨(KeepsFrom.mk ht.size ?_).trans ((KeepsOthers.setCell _ _ _).from _), ⟨by simp [World.setCell]; exact ht.size, ?_⟩, hb.far (p := ⟨bi, 0, none⟩) (by show b0 ≠ bi; omega) _, Blk.far (ht.heap (by omega) h1 : Blk W (b0 + 1) _ _) (p := ⟨bi, 0, none⟩) (by show b0 + 1 ≠ bi; omega) _, m2.set_ 0 _, (h3.trans (ht.below (by have := h3.size; have := HB0.out; omega) (fun b hb => by omega))).setCell (p := ⟨bi, 0, none⟩) (by show b0 ≤ bi; omega) _, by simp [World.setCell]; exact Nat.le_trans h4 ht.size⟩
            · intro k o hB ho hc
              exact ht.heap (by have := WZ.out; omega) ho
            · rintro b hb'
              have hbb : b = bi + 1 ∨ b = bi + 2 := hb'
              exact (Below.heap_setCell _ ⟨bi, 0, none⟩ _ b (by show b ≠ bi; omega)).trans (ht.same b (by omega) (by omega))
          case done =>
            rintro D U hD ⟨h0, h1, h2, h3, h4⟩ hDD
            rw [choose83_len] at h0 h2
            rw [show ((56 : Nat) : Int) = 56 from rfl] at h2
            have wz := WZ.out
            have hD1 : D < U.heap.size := (Array.getElem?_eq_some_iff.1 hDD).1
            obtain ⟨bj, hbj⟩ : ∃ bj, U.heap.size = bj := ⟨_, rfl⟩
            have h0' : Blk U b0 102 (codeCells (hC 0)) := h0
            have K0 := Lib.hid h0'
            have K1 := Lib.hid h1
            have K2 := Lib.hid h2
            have KB := Lib.hid h3
            have KZ := Lib.hid h4
            have KD := Lib.hid hDD
            have HD := Lib.hid hD
            have HD1 := Lib.hid hD1
            clear h0 h0' h1 h2 h3 h4 hDD hD hD1 W0 W1 W2 W3 W4 WB wz
            gi_wp2_with fail
            refine ⟨trivial, ?_⟩
            refine (callsIn_wide.2 (choose8_any _ _ _)).mono ?_
            rintro e w4 ⟨rfl, hw4⟩
            have V0 : Blk w4 b0 102 (codeCells (hC 0)) := by rw [hw4]; exact (K0.out.alloc _).alloc _
            have V1 : Blk w4 (b0 + 1) 58 #[.pointer (some ⟨b0, 0, none⟩)] := by rw [hw4]; exact (K1.out.alloc _).alloc _
            have V2 : Blk w4 bi 3 #[.int .i64 56] := by rw [hw4]; exact (K2.out.alloc _).alloc _
            have V3 : Blk w4 bj 3 #[.int .i64 8] := by rw [hw4, ← hbj]; exact (Blk.new U _ _).alloc _
            have V4 : Blk w4 (bj + 1) 3 #[.int .i64 5] := by
              rw [hw4, ← hbj]; have h := Blk.new (U.alloc (.cells #[.int .i64 8] 3)) 3 #[.int .i64 5]
              rw [World.size_alloc] at h; exact h
            have VB : Below b0 w w4 := by
              rw [hw4]; have := KB.out.size; have := HB0.out; exact (KB.out.alloc (by omega) _).alloc (by simp; omega) _
            have VD : w4.heap[D]? = some (.deferred (some [])) := by
              rw [hw4]; exact (Below.heap_alloc _ _ _ (by simp; have := HD1.out; omega)).trans ((Below.heap_alloc _ _ _ HD1.out).trans KD.out)
            have VZ : w4.heap.size = bj + 2 := by rw [hw4, ← hbj]; simp
            have lj : bi + 3 ≤ bj := by rw [← hbj]; exact KZ.out
            have lD : D < bj := by rw [← hbj]; exact HD1.out
            rw [hbj]
            have W0 := Lib.hid V0
            have W1 := Lib.hid V1
            have W2 := Lib.hid V2
            have W3 := Lib.hid V3
            have W4 := Lib.hid V4
            have WB := Lib.hid VB
            have WD := Lib.hid VD
            have XZ := Lib.hid VZ
            clear K0 K1 K2 KB KZ KD V0 V1 V2 V3 V4 VB VD VZ hw4 hbj
            gi_wp2
            refine iter_law (n := 6) rfl (by omega) (gf := 86) (lb := #[.pointer (some ⟨bj + 1, 0, none⟩), .pointer (some ⟨bj, 0, none⟩)]) rfl trivial (enters_of Try.func86 (by kernel_rfl) rfl)
              (choose8_iter (6 - 1) (by omega) bj (bj + 1) 8 5 (by omega) (by omega)) ?hSt2 (fun _ h => h.elim) ?hKl2 (fun _ => rfl)
              (fun i U => i ≤ 10 ∧ Blk U b0 102 (codeCells (hC i)) ∧ Blk U (b0 + 1) 58 #[.pointer (some ⟨b0, 0, none⟩)] ∧ Blk U bi 3 #[.int .i64 (iv i : Nat)] ∧ Below b0 w U ∧ bj + 2 ≤ U.heap.size ∧ U.heap[D]? = some (.deferred (some [])))
              (fun c _ U => c = .exit 6 ∧ Blk U b0 102 (codeCells (hC 10)) ∧ Blk U (b0 + 1) 58 #[.pointer (some ⟨b0, 0, none⟩)] ∧ Below b0 w U ∧ bj + 2 ≤ U.heap.size ∧ U.heap[D]? = some (.deferred (some [])))
              ?hI2 ?hIx2 ?h02 ?act2 ?assign2 ?body2 ?done2 ?stop2
            case hSt2 =>
              intro U hU
              have wz := XZ.out
              exact ⟨by rw [World.cell?_of_block (a := ⟨bj, 0, none⟩) (hU bj (by omega))]; exact W3.out.cell 0, by rw [World.cell?_of_block (a := ⟨bj + 1, 0, none⟩) (hU (bj + 1) (by omega))]; exact W4.out.cell 0⟩
            case hKl2 => have wz := XZ.out; rintro b (rfl | rfl) <;> omega
            case hI2 =>
              rintro i A B ⟨hi, h0, h1, h2, h3, h4, h5⟩ t
              have wz := XZ.out
              have k := fun {b : Nat} {cs : Array Value} {ty : TypeId} (h : Blk A b ty cs) => (t.heap (other_cells h (fun e => e)) h : Blk B b ty cs)
              exact ⟨hi, k h0, k h1, k h2, h3.trans (t.below (by have := h3.size; have := HB0.out; omega) (fun b hb => by rcases hb with hb | ⟨hb, _⟩; exact hb.elim; omega)), Nat.le_trans h4 t.size, t.heap (other_low (by omega) (fun e => e)) h5⟩
            case hIx2 =>
              rintro c i A B ⟨hc, h0, h1, h3, h4, h5⟩ t
              have wz := XZ.out
              have k := fun {b : Nat} {cs : Array Value} {ty : TypeId} (h : Blk A b ty cs) => (t.heap (other_cells h (fun e => e)) h : Blk B b ty cs)
              exact ⟨hc, k h0, k h1, h3.trans (t.below (by have := h3.size; have := HB0.out; omega) (fun b hb => by rcases hb with hb | ⟨hb, _⟩; exact hb.elim; omega)), Nat.le_trans h4 t.size, t.heap (other_low (by omega) (fun e => e)) h5⟩
            case h02 => exact ⟨by omega, W0.out, W1.out, W2.out, WB.out, by have := XZ.out; omega, WD.out⟩
            case assign2 =>
              intro l x W K hK
              gi_wp2
              exact hK
            case body2 =>
              rintro l i x U hx ⟨hi, h0, h1, h2, h3, h4, h5⟩
              have e1 := h1.cell 0
              have e2 := h2.cell 0
              have f2 := h2.frozen 0
              simp only [List.getElem?_toArray, List.getElem?_cons_zero] at e1 e2
              by_cases h10 : i = 10
              · subst h10
                have hiv : (iv 10 : Nat) = 74 := rfl
                rw [hiv] at e2 h2
                have HI := Lib.hid (And.intro h0 (And.intro h1 (And.intro h3 (And.intro h4 h5))))
                clear h0 h1 h2 h3 h4 h5 hx hiv
                gi_wp2
                exact ⟨KeepsFrom.refl _ _, rfl, HI.out⟩
              · have hi9 : i < 10 := by omega
                have hxl : x < 256 := by
                  have hm := chTo_mem (2 ^ 8) 0 5 x (List.mem_of_getElem? hx)
                  have : (2 : Nat) ^ 8 = 256 := rfl
                  omega
                have hg : (choose 8 5).getD i 0 = x := by rw [List.getD_eq_getElem?_getD, hx]; rfl
                have hst : hput (hC i) (place5 i) x = hC (i + 1) := by rw [hC, hg]
                by_cases h8 : i = 8
                · subst h8
                  have hiv : (iv 8 : Nat) = 64 := rfl
                  rw [hiv] at e2 h2
                  rw [show ((64 : Nat) : Int) = 64 from rfl] at e2
                  have hiv2 : iv (8 + 1) = 72 + 1 := rfl
                  have hpl : place5 8 = 72 := rfl
                  rw [hpl] at hst
                  obtain ⟨U8, hU8⟩ : ∃ U8, U.setCell ⟨bi, 0, none⟩ (.int .i64 72) = U8 := ⟨_, rfl⟩
                  have g0 : Blk U8 b0 102 (codeCells (hC 8)) := by rw [← hU8]; exact h0.far (p := ⟨bi, 0, none⟩) (by show b0 ≠ bi; have := WZ.out; omega) _
                  have g1 : Blk U8 (b0 + 1) 58 #[.pointer (some ⟨b0, 0, none⟩)] := by rw [← hU8]; exact h1.far (p := ⟨bi, 0, none⟩) (by show b0 + 1 ≠ bi; have := WZ.out; omega) _
                  have g2 : Blk U8 bi 3 #[.int .i64 ((72 : Nat) : Int)] := by rw [← hU8]; exact h2.set_ 0 _
                  have g3 : Below b0 w U8 := by rw [← hU8]; exact h3.setCell (p := ⟨bi, 0, none⟩) (by show b0 ≤ bi; have := WZ.out; omega) _
                  have g4 : bj + 2 ≤ U8.heap.size := by rw [← hU8]; simp [World.setCell]; exact h4
                  have g5 : U8.heap[D]? = some (.deferred (some [])) := by rw [← hU8]; exact (KeepsOthers.setCell U ⟨bi, 0, none⟩ _).same D _ h5 rfl
                  have PA := put_any b0 (hC 8) (hC_len 8).1 (hC_len 8).2 72 x (by omega) hxl U8 g0
                  rw [hst] at PA
                  have HPA := Lib.hid PA
                  have HI := Lib.hid (And.intro g1 (And.intro g2 (And.intro g3 (And.intro g4 (And.intro g5 hU8)))))
                  have H4 := Lib.hid h4
                  have e8 := g2.cell 0
                  have e9 := g1.cell 0
                  simp only [List.getElem?_toArray, List.getElem?_cons_zero] at e8 e9
                  rw [show ((72 : Nat) : Int) = 72 from rfl] at e8
                  clear h0 h1 h2 h3 h4 h5 PA hst hg hx g0 g1 g2 g3 g4 g5 hpl hiv
                  gi_wp2_with fail
                  refine ⟨trivial, ?_⟩
                  refine (CallsIn.inRound l (callsIn_wide.2 HPA.out)).mono ?_
                  rintro e W ⟨rfl, hb, ht⟩
                  obtain ⟨h1, h2, h3, h4, h5, hU8⟩ := HI.out
                  have m2 : Blk W bi 3 #[.int .i64 ((72 : Nat) : Int)] := ht.heap (by have := WZ.out; omega) h2
                  have e2 := m2.cell 0
                  have f2 := m2.frozen 0
                  simp only [List.getElem?_toArray, List.getElem?_cons_zero] at e2
                  rw [show ((72 : Nat) : Int) = 72 from rfl] at e2
                  have HBT := Lib.hid (And.intro hb (And.intro ht m2))
                  clear hb ht m2 h1 h2 h3 h4 h5 e1 hU8 e8 e9
                  gi_wp2
                  obtain ⟨h1, h2, h3, h4, h5, hU8⟩ := HI.out
                  obtain ⟨hb, ht, m2⟩ := HBT.out
                  have wz := XZ.out
                  have wz2 := WZ.out
                  have hlt : b0 < U8.heap.size := by omega
                  have hne : ∀ b : Nat, b = D → ¬ b = b0 := fun b hb h => by have := HD.out; omega
                  have k8 : KeepsFrom w4.heap.size U U8 := by rw [← hU8]; exact (KeepsOthers.setCell _ _ _).from _
                  refine ⟨(k8.trans (KeepsFrom.mk ht.size ?_)).trans ((KeepsOthers.setCell _ _ _).from _), ⟨by rw [← hU8] at ht; have := ht.size; simp [World.setCell] at this ⊢; exact this, ?_⟩, by omega, hb.far (p := ⟨bi, 0, none⟩) (by show b0 ≠ bi; omega) _, Blk.far (ht.heap (by omega) h1 : Blk W (b0 + 1) _ _) (p := ⟨bi, 0, none⟩) (by show b0 + 1 ≠ bi; omega) _, by rw [hiv2]; exact m2.set_ 0 _, (h3.trans (ht.below (by have := h3.size; have := HB0.out; omega) (fun b hb => by omega))).setCell (p := ⟨bi, 0, none⟩) (by show b0 ≤ bi; omega) _, by simp [World.setCell]; exact Nat.le_trans h4 ht.size, ?_⟩
                  · intro k o hB ho hc
                    exact ht.heap (by omega) ho
                  · rintro b hb'
                    have hbb : b = bj ∨ b = bj + 1 := hb'
                    have s8 : U8.heap[b]? = U.heap[b]? := by rw [← hU8]; exact Below.heap_setCell U ⟨bi, 0, none⟩ _ b (by show b ≠ bi; omega)
                    exact (Below.heap_setCell _ ⟨bi, 0, none⟩ _ b (by show b ≠ bi; omega)).trans ((ht.same b (by omega) (by omega)).trans s8)
                  · exact (KeepsOthers.setCell W ⟨bi, 0, none⟩ _).same D _ (ht.heap (hne D rfl) h5) rfl
                · have hiv : iv i = place5 i := by unfold iv place5; split <;> split <;> omega
                  have hiv2 : iv (i + 1) = place5 i + 1 := by unfold iv place5; split <;> split <;> omega
                  have hp1 : place5 i ≠ 64 ∧ place5 i ≠ 74 ∧ place5 i < 74 := by unfold place5; split <;> omega
                  rw [hiv] at e2 h2
                  obtain ⟨P, hP⟩ : ∃ P, place5 i = P := ⟨_, rfl⟩
                  rw [hP] at e2 h2 hst hp1 hiv2
                  have q1 : ((P : Int) == 64) = false := by rw [beq_eq_false_iff_ne]; omega
                  have q2 : ((P : Int) == 74) = false := by rw [beq_eq_false_iff_ne]; omega
                  have PA := put_any b0 (hC i) (hC_len i).1 (hC_len i).2 P x hp1.2.2 hxl U h0
                  rw [hst] at PA
                  have HPA := Lib.hid PA
                  have HI := Lib.hid (And.intro h1 (And.intro h2 (And.intro h3 (And.intro h4 h5))))
                  clear h0 h1 h2 h3 h4 h5 PA hst hg hx
                  gi_wp2_with fail
                  refine ⟨trivial, ?_⟩
                  refine (CallsIn.inRound l (callsIn_wide.2 HPA.out)).mono ?_
                  rintro e W ⟨rfl, hb, ht⟩
                  obtain ⟨h1, h2, h3, h4, h5⟩ := HI.out
                  have m2 : Blk W bi 3 #[.int .i64 (P : Int)] := ht.heap (by omega) h2
                  have e2 := m2.cell 0
                  have f2 := m2.frozen 0
                  simp only [List.getElem?_toArray, List.getElem?_cons_zero] at e2
                  have HBT := Lib.hid (And.intro hb (And.intro ht m2))
                  clear hb ht m2 h1 h2 h3 h4 h5
                  gi_wp2
                  obtain ⟨h1, h2, h3, h4, h5⟩ := HI.out
                  obtain ⟨hb, ht, m2⟩ := HBT.out
                  have wz := XZ.out
                  have hlt : b0 < U.heap.size := by omega
                  have hne : ∀ b : Nat, b = D → ¬ b = b0 := fun b hb h => by have := HD.out; have := WZ.out; omega
                  refine ⟨(KeepsFrom.mk ht.size ?_).trans ((KeepsOthers.setCell _ _ _).from _), ⟨by simp [World.setCell]; exact ht.size, ?_⟩, by omega, hb.far (p := ⟨bi, 0, none⟩) (by show b0 ≠ bi; omega) _, Blk.far (ht.heap (by omega) h1 : Blk W (b0 + 1) _ _) (p := ⟨bi, 0, none⟩) (by show b0 + 1 ≠ bi; omega) _, by rw [hiv2]; exact m2.set_ 0 _, (h3.trans (ht.below (by have := h3.size; have := HB0.out; omega) (fun b hb => by omega))).setCell (p := ⟨bi, 0, none⟩) (by show b0 ≤ bi; omega) _, by simp [World.setCell]; exact Nat.le_trans h4 ht.size, ?_⟩
                  · intro k o hB ho hc
                    exact ht.heap (by omega) ho
                  · rintro b hb'
                    have hbb : b = bj ∨ b = bj + 1 := hb'
                    exact (Below.heap_setCell _ ⟨bi, 0, none⟩ _ b (by show b ≠ bi; omega)).trans (ht.same b (by omega) (by omega))
                  · exact (KeepsOthers.setCell W ⟨bi, 0, none⟩ _).same D _ (ht.heap (hne D rfl) h5) rfl
            case done2 =>
              rintro D2 U hD ⟨hi, _⟩ hDD
              rw [choose85_len] at hi
              omega
            case stop2 =>
              rintro D2 c i U hD _ ⟨rfl, h0, h1, h3, h4, h5⟩ hDD
              have e1 := h1.cell 0
              simp only [List.getElem?_toArray, List.getElem?_cons_zero] at e1
              have HI := Lib.hid (And.intro h0 (And.intro h3 (And.intro h4 (And.intro h5 hDD))))
              clear h0 h1 h3 h4 h5 hDD
              gi_wp2
              obtain ⟨h0, h3, h4, h5, hDD⟩ := HI.out
              have wz := XZ.out
              refine ⟨by simp, .inl ⟨_, _, rfl, run_takeDeferred hDD, ⟨by simp, .inl ⟨_, _, rfl, run_takeDeferred (b := D) ((World.putObj_heap_other (by omega)).trans h5), ?_⟩⟩⟩⟩
              rw [HB0.out]
              refine ⟨_, by simp [results, Try.results46, go_sem], rfl, ?_, ?_⟩
              · exact (World.putObj_heap_other (by have := HD.out; have := WZ.out; omega)).trans ((World.putObj_heap_other (by omega)).trans h0)
              · exact (h3.trans ((Turn.putObj (S := fun b => b0 ≤ b) U (l := D2) (by omega) _).below (by have := h3.size; have := HB0.out; omega) (fun b hb => hb))).trans ((Turn.putObj (S := fun b => b0 ≤ b) _ (l := D) (by have := HD.out; have := WZ.out; omega) _).below (by have := h3.size; have := HB0.out; simp [World.putObj]; omega) (fun b hb => hb))
end Go.Proofs.Ytkeheickaogpiaa.Hs
namespace Go.Proofs.Ytkeheickaogpiaa.Hs
open Go.RowKit Go.Shelf
attribute [local go_sem] Oper.semAt_some

theorem u8_xorN (a b : Nat) (ha : a < 256) (hb : b < 256) : bits .xor .u8 (a : Int) (b : Int) = ((a ^^^ b : Nat) : Int) := by
  have h8 : ∀ c : Nat, c < 256 → (BitVec.ofInt 8 (c : Int)).toNat = c := by
    intro c hc
    rw [BitVec.ofInt_natCast, BitVec.toNat_ofNat]; exact Nat.mod_eq_of_lt (by omega)
  have hx : a ^^^ b < 2 ^ 8 := Nat.xor_lt_two_pow ha hb
  show IntKind.u8.wrap ((BitVec.ofInt 8 (a : Int) ^^^ BitVec.ofInt 8 (b : Int)).toNat : Int) = _
  rw [BitVec.toNat_xor, h8 a ha, h8 b hb]
  exact IntWalk.u8_in _ (by omega)
/-- The lowest bit of an int. -/
def low (a : Int) : Nat := (a % 2).toNat
theorem low_lt (a : Int) : low a < 2 := by unfold low; omega
theorem i64_and1I (a : Int) : bits .and .i64 a 1 = (low a : Int) := by
  show IntKind.i64.wrap ((BitVec.ofInt 64 a &&& BitVec.ofInt 64 1).toNat : Int) = _
  have h1 : (BitVec.ofInt 64 1).toNat = 1 := rfl
  rw [BitVec.toNat_and, h1, Nat.and_one_is_mod, BitVec.toNat_ofInt, IntKind.wrap_i64]
  unfold low
  omega

set_option maxRecDepth 100000 in
set_option maxHeartbeats 2000000 in
theorem check_any (g : Nat) (d : Nat) (ld : d < 18446744073709551616) (a p : Int) (w : World) (hg : CodeAt w g) :
    Calls Try.prog 27 #[.pointer (some ⟨g, 0, none⟩), .int .u64 (d : Int), .int .i64 a, .int .i64 p] w fun e w' => e = .returned (.int .u8 (chk d (low a) (low p) : Nat)) ∧ Below w.heap.size w w' := by
  have la := i64_and1I a
  have lp := i64_and1I p
  have lg : g < w.heap.size := Blk.lt hg
  have ma := low_lt a
  have mp := low_lt p
  obtain ⟨x, hx⟩ : ∃ x, low a = x := ⟨_, rfl⟩
  obtain ⟨y, hy⟩ : ∃ y, low p = y := ⟨_, rfl⟩
  rw [hx] at la ma ⊢
  rw [hy] at lp mp ⊢
  obtain ⟨b0, hb0⟩ : ∃ b0, w.heap.size = b0 := ⟨_, rfl⟩
  rw [hb0] at lg
  have HG := Lib.hid hg
  have HB0 := Lib.hid hb0
  clear hg hx hy hb0
  refine (callsIn_wide (n := 6)).1 ?_
  refine callsIn_of_wp_marks Try.func27 rfl trivial ?_ rfl
  simp only [Try.ntmps27, List.size_toArray, List.length_cons, List.length_nil, Nat.reduceAdd, Nat.reduceSub, Array.replicate_succ, Array.replicate_zero, List.push_toArray, List.append_toArray, List.nil_append, List.cons_append]
  gi_wp2_with fail
  refine ⟨trivial, ?_⟩
  refine (callsIn_wide.2 (ones64_any _ _)).mono ?_
  rintro e w3 ⟨rfl, hw3⟩
  simp only [World.size_alloc] at hw3 ⊢
  rw [HB0.out]
  have V0 : Blk w3 b0 58 #[.pointer (some ⟨g, 0, none⟩)] := by rw [hw3, ← HB0.out]; exact ((Blk.new w _ _).alloc _).alloc _
  have V1 : Blk w3 (b0 + 1) 5 #[.int .u8 ((xfold 0 ((ones d).take 0) : Nat) : Int)] := by
    rw [hw3, ← HB0.out]; have h := (Blk.new (w.alloc (.cells #[.pointer (some ⟨g, 0, none⟩)] 58)) 5 #[.int .u8 0]).alloc (.cells #[.int .u64 (d : Int)] 54)
    rw [World.size_alloc] at h; exact h
  have V2 : Blk w3 (b0 + 2) 54 #[.int .u64 (d : Int)] := by
    rw [hw3, ← HB0.out]; have h := (Blk.new ((w.alloc (.cells #[.pointer (some ⟨g, 0, none⟩)] 58)).alloc (.cells #[.int .u8 0] 5)) 54 #[.int .u64 (d : Int)])
    rw [World.size_alloc, World.size_alloc] at h; exact h
  have VB : Below b0 w w3 := by rw [hw3, ← HB0.out]; exact (((Below.refl _ w).alloc (Nat.le_refl _) _).alloc (by simp) _).alloc (by simp; omega) _
  have VG : CodeAt w3 g := by rw [hw3]; exact ((Blk.alloc HG.out _).alloc _).alloc _
  have VZ : w3.heap.size = b0 + 3 := by rw [hw3, ← HB0.out]; simp
  have W0 := Lib.hid V0
  have W1 := Lib.hid V1
  have W2 := Lib.hid V2
  have WB := Lib.hid VB
  have WG := Lib.hid VG
  have WZ := Lib.hid VZ
  clear V0 V1 V2 VB VG VZ hw3 HG
  gi_wp2
  refine iter_law (n := 6) rfl (by omega) (gf := 76) (lb := #[.pointer (some ⟨b0 + 2, 0, none⟩)]) rfl trivial (enters_of Try.func76 (by kernel_rfl) rfl)
    (ones64_iter (6 - 1) (by omega) (b0 + 2) d ld) ?hSt ?hSl ?hKl (fun _ => rfl)
    (fun i U => Blk U (b0 + 1) 5 #[.int .u8 ((xfold 0 ((ones d).take i) : Nat) : Int)] ∧ Blk U b0 58 #[.pointer (some ⟨g, 0, none⟩)] ∧ CodeAt U g ∧ Below b0 w U ∧ b0 + 3 ≤ U.heap.size)
    (fun _ _ _ => False)
    ?hI (fun _ _ _ _ h _ => h.elim) ?h0 ?act1 ?assign ?body ?done (fun _ _ _ _ _ _ h _ => h.elim)
  case hSt =>
    intro U hU
    exact (hU _ (by have := WZ.out; omega)).trans W2.out
  case hSl => rintro c rfl; have := WZ.out; omega
  case hKl => rintro c rfl; have := WZ.out; omega
  case hI =>
    rintro i A B ⟨h0, h1, h2, h3, h4⟩ t
    exact ⟨t.heap (other_cells h0 (by omega)) h0, t.heap (other_cells h1 (by omega)) h1, t.heap (other_cells h2 (by omega)) h2, h3.trans (t.below (by have := HB0.out; have := h3.size; omega) (fun b hb => by have := WZ.out; rcases hb with hb | ⟨hb, _⟩ <;> omega)), Nat.le_trans h4 t.size⟩
  case h0 => exact ⟨W1.out, W0.out, WG.out, WB.out, by have := WZ.out; omega⟩
  case assign =>
    intro l x W K hK
    gi_wp2
    exact hK
  case body =>
    rintro l i q U hy ⟨h0, h1, h2, h3, h4⟩
    have hq64 : q < 64 := by
      obtain ⟨_, h, _⟩ := onesTo_mem 64 0 d q (List.mem_of_getElem? hy)
      omega
    have hst : xfold 0 ((ones d).take (i + 1)) = xfold 0 ((ones d).take i) ^^^ col q := by rw [List.take_add_one, hy, Option.toList_some, xfold_snoc]
    have hc := h2.col (i := q) (by omega)
    have lx : xfold 0 ((ones d).take i) < 256 := by
      have : ∀ (l : List Nat) (s : Nat), s < 256 → xfold s l < 256 := by
        intro l
        induction l with
        | nil => intro s hs; exact hs
        | cons j l ih => intro s hs; exact ih _ (Nat.xor_lt_two_pow (n := 8) hs (col_lt j))
      exact this _ 0 (by omega)
    obtain ⟨X, hX⟩ : ∃ X, xfold 0 ((ones d).take i) = X := ⟨_, rfl⟩
    obtain ⟨c, hcc⟩ : ∃ c, col q = c := ⟨_, rfl⟩
    have lc := col_lt q
    rw [hX] at h0 hst lx
    rw [hcc] at hc hst lc
    have hxor := u8_xorN X c lx lc
    rw [← hst] at hxor
    have e0 := h0.cell 0
    have f0 := h0.frozen 0
    have e1 := h1.cell 0
    simp only [List.getElem?_toArray, List.getElem?_cons_zero] at e0 e1
    have i1 : (q : Int) < 74 := by omega
    have HI := Lib.hid (And.intro h0 (And.intro h1 (And.intro h2 (And.intro h3 h4))))
    clear h0 h1 h2 h3 h4 hst hX hcc hy la lp lx lc
    obtain ⟨Y, hY⟩ : ∃ Y, xfold 0 ((ones d).take (i + 1)) = Y := ⟨_, rfl⟩
    rw [hY] at hxor
    have HYY := Lib.hid hY
    clear hY
    gi_upto_region 4 with fail
    refine wpIn_region_tail 8 (by kernel_rfl) (by kernel_rfl) ?_
    simp only [List.take_succ_cons, List.take_zero, List.drop_succ_cons, List.drop_zero]
    repeat (gi_big_quiet_step ((fail)))
    refine wpQuietIn_nil ?_
    intro _ hw'
    obtain ⟨nq, hw''⟩ := hw'
    subst hw''
    gi_wp2
    obtain ⟨h0, h1, h2, h3, h4⟩ := HI.out
    refine ⟨⟨(KeepsOthers.setCell (U.drewN nq) ⟨b0 + 1, 0, none⟩ _).size, fun k o _ => (KeepsOthers.setCell (U.drewN nq) ⟨b0 + 1, 0, none⟩ _).same k o⟩, ⟨by simp [World.setCell], fun b hb => ?_⟩, by rw [HYY.out]; exact (h0.drewN nq).set_ 0 _, (h1.drewN nq).far (p := ⟨b0 + 1, 0, none⟩) (by show b0 ≠ b0 + 1; omega) _, Blk.far (Blk.drewN h2 nq) (p := ⟨b0 + 1, 0, none⟩) (by show g ≠ b0 + 1; omega) _, (below_drewN h3 nq).setCell (p := ⟨b0 + 1, 0, none⟩) (by show b0 ≤ b0 + 1; omega) _, by simp [World.setCell]; exact h4⟩
    exact Below.heap_setCell (U.drewN nq) ⟨b0 + 1, 0, none⟩ _ b (by show b ≠ b0 + 1; have hb2 : b = b0 + 2 := hb; omega)
  case done =>
    rintro D U hD ⟨h0, h1, h2, h3, h4⟩ hDD
    rw [List.take_length] at h0
    have hcs : xfold 0 (ones d) = cs d := by unfold ones cs; rw [xfold_ones, Nat.zero_xor]
    rw [hcs] at h0
    have hch : chk d x y = cs d ^^^ mark x 72 ^^^ mark y 73 := rfl
    have lc := cs_lt d
    obtain ⟨X, hX⟩ : ∃ X, cs d = X := ⟨_, rfl⟩
    rw [hX] at h0 lc hch
    have c72 := h2.col (i := 72) (by omega)
    have c73 := h2.col (i := 73) (by omega)
    have l72 := col_lt 72
    have l73 := col_lt 73
    have m72 : mark x 72 = if x % 2 = 1 then col 72 else 0 := rfl
    have m73 : mark y 73 = if y % 2 = 1 then col 73 else 0 := rfl
    obtain ⟨P, hP⟩ : ∃ P, col 72 = P := ⟨_, rfl⟩
    obtain ⟨Q, hQ⟩ : ∃ Q, col 73 = Q := ⟨_, rfl⟩
    rw [hP] at c72 l72 m72
    rw [hQ] at c73 l73 m73
    rw [m72, m73] at hch
    have e0 := h0.cell 0
    have f0 := h0.frozen 0
    have e1 := h1.cell 0
    simp only [List.getElem?_toArray, List.getElem?_cons_zero] at e0 e1
    have HI := Lib.hid (And.intro h0 (And.intro h1 (And.intro h2 (And.intro h3 (And.intro h4 (And.intro hDD hD))))))
    have HCH := Lib.hid hch
    clear h0 h1 h2 h3 h4 hDD hD hcs hX hP hQ m72 m73 hch W0 W1 W2 WB WG
    have x1 := u8_xorN X P lc l72
    have x2 := u8_xorN X Q lc l73
    have x3 := u8_xorN (X ^^^ P) Q (Nat.xor_lt_two_pow (n := 8) lc l72) l73
    have hx2 : x = 0 ∨ x = 1 := by omega
    have hy2 : y = 0 ∨ y = 1 := by omega
    clear ma mp
    rcases hx2 with rfl | rfl <;> rcases hy2 with rfl | rfl
    · rw [show ((0 : Nat) : Int) = 0 from rfl] at la lp
      have HC := Lib.hid (show chk d 0 0 = X by rw [HCH.out]; simp)
      clear HCH x1 x2 x3
      gi_wp2
      obtain ⟨h0, h1, h2, h3, h4, hDD, hD⟩ := HI.out
      refine ⟨by simp, .inl ⟨_, _, rfl, run_takeDeferred (b := D) (hDD), ?_⟩⟩
      refine ⟨_, by simp [results, Try.results27, go_sem], congrArg (fun z : Nat => Ending.returned (.int .u8 (z : Int))) HC.out.symm, ?_⟩
      have lb : w.heap.size ≤ b0 + 1 := by have := HB0.out; omega
      have lD : w.heap.size ≤ D := by have := HB0.out; have := WZ.out; omega
      have bb : Below w.heap.size w U := by rw [HB0.out]; exact h3
      have bt := bb
      exact bt.trans ((Turn.putObj (S := fun b => w.heap.size ≤ b) _ (l := D) lD _).below bt.size (fun b hb => hb))
    · rw [show ((0 : Nat) : Int) = 0 from rfl] at la
      rw [show ((1 : Nat) : Int) = 1 from rfl] at lp
      have HC := Lib.hid (show chk d 0 1 = X ^^^ Q by rw [HCH.out]; simp)
      clear HCH x1 x3
      gi_upto_region 8 with fail
      refine wpIn_region_tail 7 (by kernel_rfl) (by kernel_rfl) ?_
      simp only [List.take_succ_cons, List.take_zero, List.drop_succ_cons, List.drop_zero]
      repeat (gi_big_quiet_step ((fail)))
      refine wpQuietIn_nil ?_
      intro _ hw'
      obtain ⟨nq, hw''⟩ := hw'
      subst hw''
      gi_wp2
      obtain ⟨h0, h1, h2, h3, h4, hDD, hD⟩ := HI.out
      refine ⟨by simp, .inl ⟨_, _, rfl, run_takeDeferred (b := D) ((KeepsOthers.setCell (U.drewN nq) ⟨b0 + 1, 0, none⟩ _).same D _ hDD rfl), ?_⟩⟩
      refine ⟨_, by simp [results, Try.results27, go_sem], congrArg (fun z : Nat => Ending.returned (.int .u8 (z : Int))) HC.out.symm, ?_⟩
      have lb : w.heap.size ≤ b0 + 1 := by have := HB0.out; omega
      have lD : w.heap.size ≤ D := by have := HB0.out; have := WZ.out; omega
      have bb : Below w.heap.size w U := by rw [HB0.out]; exact h3
      have bt := (below_drewN bb nq).setCell (p := ⟨b0 + 1, 0, none⟩) lb (.int .u8 ((X ^^^ Q : Nat) : Int))
      exact bt.trans ((Turn.putObj (S := fun b => w.heap.size ≤ b) _ (l := D) lD _).below bt.size (fun b hb => hb))
    · rw [show ((0 : Nat) : Int) = 0 from rfl] at lp
      rw [show ((1 : Nat) : Int) = 1 from rfl] at la
      have HC := Lib.hid (show chk d 1 0 = X ^^^ P by rw [HCH.out]; simp)
      clear HCH x2 x3
      gi_upto_region 6 with fail
      refine wpIn_region_tail 7 (by kernel_rfl) (by kernel_rfl) ?_
      simp only [List.take_succ_cons, List.take_zero, List.drop_succ_cons, List.drop_zero]
      repeat (gi_big_quiet_step ((fail)))
      refine wpQuietIn_nil ?_
      intro _ hw'
      obtain ⟨nq, hw''⟩ := hw'
      subst hw''
      gi_wp2
      obtain ⟨h0, h1, h2, h3, h4, hDD, hD⟩ := HI.out
      refine ⟨by simp, .inl ⟨_, _, rfl, run_takeDeferred (b := D) ((KeepsOthers.setCell (U.drewN nq) ⟨b0 + 1, 0, none⟩ _).same D _ hDD rfl), ?_⟩⟩
      refine ⟨_, by simp [results, Try.results27, go_sem], congrArg (fun z : Nat => Ending.returned (.int .u8 (z : Int))) HC.out.symm, ?_⟩
      have lb : w.heap.size ≤ b0 + 1 := by have := HB0.out; omega
      have lD : w.heap.size ≤ D := by have := HB0.out; have := WZ.out; omega
      have bb : Below w.heap.size w U := by rw [HB0.out]; exact h3
      have bt := (below_drewN bb nq).setCell (p := ⟨b0 + 1, 0, none⟩) lb (.int .u8 ((X ^^^ P : Nat) : Int))
      exact bt.trans ((Turn.putObj (S := fun b => w.heap.size ≤ b) _ (l := D) lD _).below bt.size (fun b hb => hb))
    · rw [show ((1 : Nat) : Int) = 1 from rfl] at la lp
      have HC := Lib.hid (show chk d 1 1 = X ^^^ P ^^^ Q by rw [HCH.out]; simp)
      clear HCH x2
      gi_upto_region 6 with fail
      refine wpIn_region_tail 7 (by kernel_rfl) (by kernel_rfl) ?_
      simp only [List.take_succ_cons, List.take_zero, List.drop_succ_cons, List.drop_zero]
      repeat (gi_big_quiet_step ((fail)))
      refine wpQuietIn_nil ?_
      intro _ hw'
      obtain ⟨nq, hw''⟩ := hw'
      subst hw''
      gi_upto_region 8 with fail
      obtain ⟨n1, hn1⟩ : ∃ n1, n1 = nq := ⟨_, rfl⟩
      subst hn1
      obtain ⟨U2, hU2⟩ : ∃ U2, (U.drewN n1).setCell ⟨b0 + 1, 0, none⟩ (.int .u8 ((X ^^^ P : Nat) : Int)) = U2 := ⟨_, rfl⟩
      rw [hU2]
      have e0 : U2.cell? ⟨b0 + 1, 0, none⟩ = some (.int .u8 ((X ^^^ P : Nat) : Int)) := by
        rw [← hU2]; have h := (((HI.out.1).drewN n1).set_ 0 (.int .u8 ((X ^^^ P : Nat) : Int))).cell 0; exact h
      have f0 : U2.frozen? ⟨b0 + 1, 0, none⟩ = false := by
        rw [← hU2]; exact (((HI.out.1).drewN n1).set_ 0 (.int .u8 ((X ^^^ P : Nat) : Int))).frozen 0
      have e1 : U2.cell? ⟨b0, 0, none⟩ = some (.pointer (some ⟨g, 0, none⟩)) := by
        rw [← hU2]; exact ((HI.out.2.1.drewN n1).far (p := ⟨b0 + 1, 0, none⟩) (by show b0 ≠ b0 + 1; omega) _).cell 0
      have c73 : U2.cell? ⟨g, 73, none⟩ = some (.int .u8 (Q : Int)) := by
        rw [← hU2, World.cell?_setCell_other _ _ _ _ (by intro h; injection h with h; omega)]; exact c73
      have HU2 := Lib.hid hU2
      clear hU2
      refine wpIn_region_tail 7 (by kernel_rfl) (by kernel_rfl) ?_
      simp only [List.take_succ_cons, List.take_zero, List.drop_succ_cons, List.drop_zero]
      repeat (gi_big_quiet_step ((fail)))
      refine wpQuietIn_nil ?_
      intro _ hw'
      obtain ⟨nq, hw''⟩ := hw'
      subst hw''
      gi_wp2
      obtain ⟨h0, h1, h2, h3, h4, hDD, hD⟩ := HI.out
      refine ⟨by simp, .inl ⟨_, _, rfl, run_takeDeferred (b := D) ((KeepsOthers.setCell (U2.drewN nq) ⟨b0 + 1, 0, none⟩ _).same D _ (show U2.heap[D]? = _ by rw [← HU2.out]; exact (KeepsOthers.setCell (U.drewN n1) ⟨b0 + 1, 0, none⟩ _).same D _ hDD rfl) rfl), ?_⟩⟩
      refine ⟨_, by simp [results, Try.results27, go_sem], congrArg (fun z : Nat => Ending.returned (.int .u8 (z : Int))) HC.out.symm, ?_⟩
      have lb : w.heap.size ≤ b0 + 1 := by have := HB0.out; omega
      have lD : w.heap.size ≤ D := by have := HB0.out; have := WZ.out; omega
      have bb : Below w.heap.size w U := by rw [HB0.out]; exact h3
      have bt := (below_drewN (show Below w.heap.size w U2 by rw [← HU2.out]; exact (below_drewN bb n1).setCell (p := ⟨b0 + 1, 0, none⟩) lb _) nq).setCell (p := ⟨b0 + 1, 0, none⟩) lb (.int .u8 ((X ^^^ P ^^^ Q : Nat) : Int))
      exact bt.trans ((Turn.putObj (S := fun b => w.heap.size ≤ b) _ (l := D) lD _).below bt.size (fun b hb => hb))
end Go.Proofs.Ytkeheickaogpiaa.Hs
namespace Go.Proofs.Ytkeheickaogpiaa.Hs
open Go.RowKit

/-- The code is there, and nothing that lay at the beginning has changed. -/
def HS (w : World) (g : Nat) (W : World) : Prop := Below w.heap.size w W ∧ CodeAt W g
theorem HS.step {w W W' : World} {g : Nat} (h : HS w g W) (hb : Below W.heap.size W W') : HS w g W' := ⟨h.1.trans (hb.mono h.1.size), Blk.below h.2 hb (Blk.lt h.2)⟩

theorem syndrome_any (g : Nat) (d k : Nat) (ld : d < 18446744073709551616) (lk : k < 256) (a p : Int) (w : World) (hg : CodeAt w g) :
    Calls Try.prog 94 #[.pointer (some ⟨g, 0, none⟩), .int .u64 (d : Int), .int .u8 (k : Int), .int .i64 a, .int .i64 p] w fun e w' => e = .returned (.int .u8 ((chk d (low a) (low p) ^^^ k : Nat) : Int)) ∧ Below w.heap.size w w' := by
  have CC := Lib.hid (check_any g d ld a p w hg)
  have lc := chk_lt d (low a) (low p)
  obtain ⟨c, hc⟩ : ∃ c, chk d (low a) (low p) = c := ⟨_, rfl⟩
  rw [hc] at CC lc ⊢
  have hx := u8_xorN c k lc lk
  clear hc hg
  go_enter Try.func94, Try.ntmps94
  go_wp2_with fail
  refine CC.out.mono ?_
  rintro e w1 ⟨rfl, hb⟩
  go_wp2
  go_ret
  exact ⟨rfl, hb⟩

theorem verdict_cases {s : Nat} (hs : s < 256) : (s = 0 ∧ verdict s = (0, -1)) ∨ (s ≠ 0 ∧ atS s = -1 ∧ verdict s = (4, -1)) ∨ (s = col 72 ∧ verdict s = (3, -1)) ∨ (s = col 73 ∧ verdict s = (2, -1)) ∨ ∃ t : Nat, t < 72 ∧ s = col t ∧ verdict s = (1, (t : Int)) := by
  by_cases h0 : s = 0
  · exact .inl ⟨h0, by unfold verdict; rw [if_pos h0]⟩
  · rcases at_all hs with h | ⟨h1, h2, h3⟩
    · exact .inr (.inl ⟨h0, h, by unfold verdict; rw [if_neg h0, if_pos h]⟩)
    · obtain ⟨t, ht⟩ := Int.eq_ofNat_of_zero_le h1
      rw [ht] at h2 h3
      have e3 : col t = s := h3
      by_cases h72 : t = 72
      · subst h72
        exact .inr (.inr (.inl ⟨e3.symm, by unfold verdict; rw [if_neg h0, ht, if_neg (by decide), if_pos (by decide)]⟩))
      · by_cases h73 : t = 73
        · subst h73
          exact .inr (.inr (.inr (.inl ⟨e3.symm, by unfold verdict; rw [if_neg h0, ht, if_neg (by decide), if_neg (by decide), if_pos (by decide)]⟩)))
        · exact .inr (.inr (.inr (.inr ⟨t, by omega, e3.symm, by unfold verdict; rw [if_neg h0, ht, if_neg (by omega), if_neg (by omega), if_neg (by omega)]⟩)))

def decD (d : Nat) (v : Nat × Int) : Nat := if v.1 = 1 ∧ v.2 < 64 then d ^^^ 2 ^ v.2.toNat else d
theorem u64_shlH {t : Nat} (h : t < 64) : IntKind.u64.wrap ((2 : Int) ^ t) = ((2 ^ t : Nat) : Int) := by
  have h2 : 2 ^ t < 18446744073709551616 := (Nat.pow_lt_pow_right (by decide) h : 2 ^ t < 2 ^ 64)
  rw [show ((2 : Int) ^ t) = ((2 ^ t : Nat) : Int) by simp]
  exact (fun P h => IntWalk.u64_in _ (by omega) : ∀ P : Nat, P < 18446744073709551616 → IntKind.u64.wrap (P : Int) = P) _ h2
set_option maxRecDepth 100000 in
theorem decode_any (g : Nat) (d k : Nat) (ld : d < 18446744073709551616) (lk : k < 256) (a : Int) (w : World) (hg : CodeAt w g) :
    Calls Try.prog 82 #[.pointer (some ⟨g, 0, none⟩), .int .u64 (d : Int), .int .u8 (k : Int), .int .i64 a] w fun e w' =>
      e = .returned (.tuple #[.int .u64 (decD d (verdict (chk d (low a) 0 ^^^ k)) : Nat), .int .i64 ((verdict (chk d (low a) 0 ^^^ k)).1 : Nat), .int .i64 (verdict (chk d (low a) 0 ^^^ k)).2]) ∧ Below w.heap.size w w' := by
  have CC := syndrome_any g d k ld lk a 0 w hg
  have hl0 : low 0 = 0 := rfl
  rw [hl0] at CC
  have ls : chk d (low a) 0 ^^^ k < 256 := Nat.xor_lt_two_pow (n := 8) (chk_lt _ _ _) lk
  obtain ⟨s, hs⟩ : ∃ s, chk d (low a) 0 ^^^ k = s := ⟨_, rfl⟩
  rw [hs] at CC ls ⊢
  have HCC := Lib.hid CC
  have HG := Lib.hid hg
  clear CC hl0 hs hg
  have CL := fun W hW => classify_any g s ls W hW
  rcases verdict_cases ls with ⟨-, hv⟩ | ⟨-, -, hv⟩ | ⟨-, hv⟩ | ⟨-, hv⟩ | ⟨t, ht, -, hv⟩
  case' inr.inr.inr.inr =>
    rw [hv] at CL
    have HV := Lib.hid hv
    have HCL := Lib.hid CL
    clear hv CL
    by_cases h64 : t < 64
    · have hp := u64_shlH h64
      have h2 : 2 ^ t < 18446744073709551616 := (Nat.pow_lt_pow_right (by decide) h64 : 2 ^ t < 2 ^ 64)
      obtain ⟨P, hP⟩ : ∃ P, 2 ^ t = P := ⟨_, rfl⟩
      have HD := Lib.hid (show decD d (1, (t : Int)) = d ^^^ P by unfold decD; rw [if_pos ⟨rfl, by show (t : Int) < 64; omega⟩, ← hP]; rfl)
      rw [hP] at hp h2
      have hx := u64_xor_nat d P ld h2
      have HPP := Lib.hid hP
      clear hP
      go_enter Try.func82, Try.ntmps82
      go_wp2_with fail
      refine HCC.out.mono ?_
      rintro e w1 ⟨rfl, hb⟩
      have H2 := Lib.hid hb
      clear hb
      go_wp2_with fail
      refine (HCL.out w1 (Blk.below HG.out H2.out (Blk.lt HG.out))).mono ?_
      rintro e w2 ⟨rfl, rfl⟩
      go_wp2
      refine bodyPost_ret (v := .tuple #[.int .u64 ((d ^^^ P : Nat) : Int), .int .i64 1, .int .i64 (t : Int)]) (by simp [results, Try.results82, go_sem]) rfl ⟨?_, H2.out⟩
      rw [HV.out, HD.out]; rfl
    · have HD := Lib.hid (show decD d (1, (t : Int)) = d by unfold decD; rw [if_neg]; rintro ⟨_, h⟩; exact h64 (by have h2 : (t : Int) < 64 := h; omega))
      have i1 : ¬ (t : Int) < 64 := by omega
      go_enter Try.func82, Try.ntmps82
      go_wp2_with fail
      refine HCC.out.mono ?_
      rintro e w1 ⟨rfl, hb⟩
      have H2 := Lib.hid hb
      clear hb
      go_wp2_with fail
      refine (HCL.out w1 (Blk.below HG.out H2.out (Blk.lt HG.out))).mono ?_
      rintro e w2 ⟨rfl, rfl⟩
      go_wp2
      refine bodyPost_ret (v := .tuple #[.int .u64 (d : Int), .int .i64 1, .int .i64 (t : Int)]) (by simp [results, Try.results82, go_sem]) rfl ⟨?_, H2.out⟩
      rw [HV.out, HD.out]; rfl
  all_goals
    rw [hv] at CL
    have HV := Lib.hid hv
    have HCL := Lib.hid CL
    clear hv CL
    go_enter Try.func82, Try.ntmps82
    go_wp2_with fail
    refine HCC.out.mono ?_
    rintro e w1 ⟨rfl, hb⟩
    have H2 := Lib.hid hb
    clear hb
    go_wp2_with fail
    refine (HCL.out w1 (Blk.below HG.out H2.out (Blk.lt HG.out))).mono ?_
    rintro e w2 ⟨rfl, rfl⟩
    go_wp2
  · refine bodyPost_ret (v := .tuple #[.int .u64 (d : Int), .int .i64 0, .int .i64 (-1)]) (by simp [results, Try.results82, go_sem]) rfl ⟨?_, H2.out⟩
    rw [HV.out]; rfl
  · refine bodyPost_ret (v := .tuple #[.int .u64 (d : Int), .int .i64 4, .int .i64 (-1)]) (by simp [results, Try.results82, go_sem]) rfl ⟨?_, H2.out⟩
    rw [HV.out]; rfl
  · refine bodyPost_ret (v := .tuple #[.int .u64 (d : Int), .int .i64 3, .int .i64 (-1)]) (by simp [results, Try.results82, go_sem]) rfl ⟨?_, H2.out⟩
    rw [HV.out]; rfl
  · refine bodyPost_ret (v := .tuple #[.int .u64 (d : Int), .int .i64 2, .int .i64 (-1)]) (by simp [results, Try.results82, go_sem]) rfl ⟨?_, H2.out⟩
    rw [HV.out]; rfl
end Go.Proofs.Ytkeheickaogpiaa.Hs
namespace Go.Proofs.Ytkeheickaogpiaa.Hs
open Go.RowKit

/-- What 'turned' hands back. -/
def tD (d i : Nat) : Nat := if i < 64 then d ^^^ 2 ^ i else d
def tK (k i : Nat) : Nat := if 64 ≤ i ∧ i < 72 then k ^^^ 2 ^ (i - 64) else k
theorem tD_lt {d : Nat} (i : Nat) (h : d < 18446744073709551616) : tD d i < 18446744073709551616 := by
  unfold tD
  split
  · exact Nat.xor_lt_two_pow (n := 64) h (Nat.pow_lt_pow_right (by decide) (by assumption))
  · exact h
theorem tK_lt {k : Nat} (i : Nat) (h : k < 256) : tK k i < 256 := by
  unfold tK
  split
  · exact Nat.xor_lt_two_pow (n := 8) h (Nat.pow_lt_pow_right (by decide) (by omega))
  · exact h
end Go.Proofs.Ytkeheickaogpiaa.Hs
namespace Go.Proofs.Ytkeheickaogpiaa.Hs
open Go.RowKit

theorem HS.new {w w1 : World} (hc : CodeAt w1 w.heap.size) (hb : Below w.heap.size w w1) : HS w w.heap.size w1 := ⟨hb, hc⟩
theorem verdict_73 : verdict (col 73) = (2, -1) := by
  unfold verdict
  rw [if_neg (by have := col_pos (i := 73) (by omega); omega), at_col (by omega)]
  rfl
end Go.Proofs.Ytkeheickaogpiaa.Hs
namespace Go.Proofs.Ytkeheickaogpiaa.Hs
open Go.RowKit

theorem chTo_getD (m x k n : Nat) : (chTo (m + 1) x k).getD n 0 = if pc x = k then (if n = 0 then x else (chTo m (x + 1) k).getD (n - 1) 0) else (chTo m (x + 1) k).getD n 0 := by
  rw [chTo]
  by_cases h : pc x = k
  · rw [if_pos h, if_pos h]
    cases n with
    | zero => rfl
    | succ n => rw [if_neg (by omega)]; rfl
  · rw [if_neg h, if_neg h]
set_option maxRecDepth 100000 in
theorem nth_any (k n : Nat) (hk : k ≤ 64) (hn : n ≤ 1000) (w : World) :
    Calls Try.prog 85 #[.int .i64 (k : Int), .int .i64 (n : Int)] w fun e w' => e = .returned (.int .u8 ((choose 8 k).getD n 0 : Nat)) ∧ w = w' := by
  obtain ⟨R, hR⟩ : ∃ R, (choose 8 k).getD n 0 = R := ⟨_, rfl⟩
  rw [hR]
  have hR2 : (chTo 256 0 k).getD n 0 = R := hR
  have HR := Lib.hid hR2
  clear hR hR2
  go_enter Try.func85, Try.ntmps85
  go_wp2
  go_loop [1, 5] (fun n x => ∃ m y : Nat, y ≤ 256 ∧ m ≤ 1000 ∧ n = .int .i64 m ∧ x = .int .i64 y ∧ (chTo (256 - y) y k).getD m 0 = R) (fun _ x => 256 - (intOf x).toNat)
  case atStart => exact ⟨n, 0, by omega, hn, rfl, rfl, HR.out⟩
  case round =>
    obtain ⟨m, y, hy, hm, rfl, rfl, hd⟩ := hrel
    by_cases hlt : y < 256
    · rw [show 256 - y = (255 - y) + 1 by omega, chTo_getD] at hd
      have RW := refWeight (y : Int) y rfl (by omega) w
      obtain ⟨P, hP⟩ : ∃ P, pc y = P := ⟨_, rfl⟩
      rw [hP] at RW hd
      have HW := Lib.hid RW
      by_cases hpk : P = k
      · rw [if_pos hpk] at hd
        by_cases hm0 : m = 0
        · rw [if_pos hm0] at hd
          subst hpk hm0
          have HD := Lib.hid hd
          clear RW hP hd
          go_wp2_with fail
          refine HW.out.mono ?_
          rintro e w' ⟨rfl, rfl⟩
          go_wp2
          go_ret
          exact ⟨by rw [← HD.out]; rfl, rfl⟩
        · rw [if_neg hm0] at hd
          have q0 : ((m : Int) == 0) = false := by rw [beq_eq_false_iff_ne]; omega
          have m1 : 1 ≤ m := by omega
          subst hpk
          have HD := Lib.hid hd
          clear RW hP hd hm0
          go_wp2_with fail
          refine HW.out.mono ?_
          rintro e w' ⟨rfl, rfl⟩
          go_wp2
          go_round
          case rel => exact ⟨m - 1, y + 1, by omega, by omega, by congr 1; omega, by go_num, by rw [show 256 - (y + 1) = 255 - y by omega]; exact HD.out⟩
          case measure => simp [intOf]; omega
      · rw [if_neg hpk] at hd
        have q0 : ((P : Int) == (k : Int)) = false := by rw [beq_eq_false_iff_ne]; omega
        have HD := Lib.hid hd
        clear RW hP hd hpk
        go_wp2_with fail
        refine HW.out.mono ?_
        rintro e w' ⟨rfl, rfl⟩
        go_wp2
        go_round
        case rel => exact ⟨m, y + 1, by omega, hm, rfl, by go_num, by rw [show 256 - (y + 1) = 255 - y by omega]; exact HD.out⟩
        case measure => simp [intOf]; omega
    · obtain rfl : y = 256 := by omega
      have HD := Lib.hid (show 0 = R from hd)
      clear hd
      rw [show ((256 : Nat) : Int) = 256 from rfl]
      go_wp2
      go_ret
      exact ⟨by rw [← HD.out]; rfl, rfl⟩

theorem nth_col0 : (∀ i, i < 56 → (choose 8 3).getD i 0 = hcolL.getD i 0) ∧ (∀ i, i < 8 → (choose 8 5).getD i 0 = hcolL.getD (56 + i) 0) ∧ (∀ i, i < 8 → (choose 8 1).getD i 0 = hcolL.getD (64 + i) 0) ∧ (∀ i, i < 2 → (choose 8 5).getD (8 + i) 0 = hcolL.getD (72 + i) 0) := by decide +kernel
set_option maxRecDepth 100000 in
theorem refColumn_any (a : Int) (h0 : -9223372036854775808 ≤ a) (h1 : a ≤ 9223372036854775807) (w : World) :
    Calls Try.prog 63 #[.int .i64 a] w fun e w' => e = .returned (.int .u8 (colI a : Nat)) ∧ w = w' := by
  by_cases hn : 0 ≤ a
  · obtain ⟨i, rfl⟩ := Int.eq_ofNat_of_zero_le hn
    have hc : ∀ j, j = i → col i = hcolL.getD j 0 := by rintro j rfl; unfold col; rw [hcols_eq]
    by_cases hlt : i < 56
    · have hE := (hc i rfl).trans (nth_col0.1 i hlt).symm
      have N0 := nth_any 3 i (by omega) (by omega) w
      obtain ⟨R, hR⟩ : ∃ R, (choose 8 3).getD i 0 = R := ⟨_, rfl⟩
      rw [hR] at N0
      have NN := Lib.hid N0
      have q1 : (i : Int) < 56 := by omega
      have q2 : ¬ (73 : Int) < (i : Int) := by omega
      clear N0 hc
      have HE := Lib.hid (show colI (i : Int) = R by unfold colI; rw [if_pos (by omega), ← hR]; exact hE)
      clear hE hR hlt
      go_enter Try.func63, Try.ntmps63
      go_wp2_with fail
      refine NN.out.mono ?_
      rintro e w' ⟨rfl, rfl⟩
      go_wp2
      go_ret
      exact ⟨by rw [HE.out]; rfl, rfl⟩
    · by_cases hlt2 : i < 64
      · have hE := (hc (56 + (i - 56)) (by omega)).trans (nth_col0.2.1 (i - 56) (by omega)).symm
        have N0 := nth_any 5 (i - 56) (by omega) (by omega) w
        obtain ⟨R, hR⟩ : ∃ R, (choose 8 5).getD (i - 56) 0 = R := ⟨_, rfl⟩
        rw [hR, show ((i - 56 : Nat) : Int) = (i : Int) - 56 by omega] at N0
        have NN := Lib.hid N0
        have q1 : ¬ (i : Int) < 56 := by omega
        have q2 : ¬ (73 : Int) < (i : Int) := by omega
        have q3 : (i : Int) < 64 := by omega
        clear N0 hc
        have HE := Lib.hid (show colI (i : Int) = R by unfold colI; rw [if_pos (by omega), ← hR]; exact hE)
        clear hE hR hlt
        go_enter Try.func63, Try.ntmps63
        go_wp2_with fail
        refine NN.out.mono ?_
        rintro e w' ⟨rfl, rfl⟩
        go_wp2
        go_ret
        exact ⟨by rw [HE.out]; rfl, rfl⟩
      · by_cases hlt3 : i < 72
        · have hE := (hc (64 + (i - 64)) (by omega)).trans (nth_col0.2.2.1 (i - 64) (by omega)).symm
          have N0 := nth_any 1 (i - 64) (by omega) (by omega) w
          obtain ⟨R, hR⟩ : ∃ R, (choose 8 1).getD (i - 64) 0 = R := ⟨_, rfl⟩
          rw [hR, show ((i - 64 : Nat) : Int) = (i : Int) - 64 by omega] at N0
          have NN := Lib.hid N0
          have q1 : ¬ (i : Int) < 56 := by omega
          have q2 : ¬ (73 : Int) < (i : Int) := by omega
          have q3 : ¬ (i : Int) < 64 := by omega
          have q4 : (i : Int) < 72 := by omega
          clear N0 hc
          have HE := Lib.hid (show colI (i : Int) = R by unfold colI; rw [if_pos (by omega), ← hR]; exact hE)
          clear hE hR hlt
          go_enter Try.func63, Try.ntmps63
          go_wp2_with fail
          refine NN.out.mono ?_
          rintro e w' ⟨rfl, rfl⟩
          go_wp2
          go_ret
          exact ⟨by rw [HE.out]; rfl, rfl⟩
        · by_cases hlt4 : i < 74
          · have hE := (hc (72 + (i - 72)) (by omega)).trans (nth_col0.2.2.2 (i - 72) (by omega)).symm
            rw [show 8 + (i - 72) = i - 64 by omega] at hE
            have N0 := nth_any 5 (i - 64) (by omega) (by omega) w
            obtain ⟨R, hR⟩ : ∃ R, (choose 8 5).getD (i - 64) 0 = R := ⟨_, rfl⟩
            rw [hR, show ((i - 64 : Nat) : Int) = (i : Int) - 64 by omega] at N0
            have NN := Lib.hid N0
            have q1 : ¬ (i : Int) < 56 := by omega
            have q2 : ¬ (73 : Int) < (i : Int) := by omega
            have q3 : ¬ (i : Int) < 64 := by omega
            have q4 : ¬ (i : Int) < 72 := by omega
            clear N0 hc
            have HE := Lib.hid (show colI (i : Int) = R by unfold colI; rw [if_pos (by omega), ← hR]; exact hE)
            clear hE hR hlt
            go_enter Try.func63, Try.ntmps63
            go_wp2_with fail
            refine NN.out.mono ?_
            rintro e w' ⟨rfl, rfl⟩
            go_wp2
            go_ret
            exact ⟨by rw [HE.out]; rfl, rfl⟩
          · have q2 : (73 : Int) < (i : Int) := by omega
            have HE := Lib.hid (show colI (i : Int) = 0 by unfold colI; rw [if_neg (by omega)])
            clear hc hlt hlt2 hlt3 hlt4
            go_enter Try.func63, Try.ntmps63
            go_wp2
            go_ret
            exact ⟨by rw [HE.out]; rfl, rfl⟩
  · have HE := Lib.hid (show colI a = 0 by unfold colI; rw [if_neg (by omega)])
    go_enter Try.func63, Try.ntmps63
    go_wp2
    go_ret
    exact ⟨by rw [HE.out]; rfl, rfl⟩
end Go.Proofs.Ytkeheickaogpiaa.Hs
namespace Go.Proofs.Ytkeheickaogpiaa.Hs
open Go.RowKit

def colsAt (k : Nat) : Array Value := ((List.range k).map (fun i => Value.int .u8 (col i : Nat)) ++ List.replicate (74 - k) (Value.int .u8 0)).toArray
def colsV : Array Value := colsAt 74
theorem colsAt_size {k : Nat} (h : k ≤ 74) : (colsAt k).size = 74 := by unfold colsAt; simp; omega
theorem colsAt_succ {k : Nat} (h : k < 74) : (colsAt k).setIfInBounds k (.int .u8 (col k : Nat)) = colsAt (k + 1) := by
  unfold colsAt
  rw [List.setIfInBounds_toArray]
  congr 1
  rw [List.set_append_right _ _ (by simp), List.length_map, List.length_range, Nat.sub_self]
  obtain ⟨m, hm⟩ : ∃ m, 74 - k = m + 1 := ⟨74 - k - 1, by omega⟩
  rw [hm, List.replicate_succ, List.set_cons_zero, show 74 - (k + 1) = m by omega, List.range_succ, List.map_append, List.append_assoc]
  rfl
theorem colsAt_get {k i : Nat} (hk : k ≤ 74) (hi : i < 74) : ∃ v, (colsAt k)[i]? = some v := ⟨_, Array.getElem?_eq_getElem (by rw [colsAt_size hk]; exact hi)⟩
theorem colsV_get {i : Nat} (hi : i < 74) : colsV[i]? = some (.int .u8 (col i : Nat)) := by
  unfold colsV colsAt
  rw [List.getElem?_toArray, Nat.sub_self, List.replicate_zero, List.append_nil, List.getElem?_map, List.getElem?_range hi]
  rfl
theorem info74 : (Try.prog.info? 74).map (·.size) = some 74 := by kernel_rfl
theorem zero74 (w : World) : (zeroValue 74).run Try.prog w = .ok (.agg (colsAt 0)) w := by kernel_rfl
theorem colsAt_one {k : Nat} : (colsAt k).all (·.oneCell') = true := by
  rw [Array.all_eq_true_iff_forall_mem]
  intro v hv
  unfold colsAt at hv
  simp only [List.mem_toArray, List.mem_append, List.mem_map, List.mem_replicate] at hv
  rcases hv with ⟨_, _, rfl⟩ | ⟨_, rfl⟩ <;> rfl

set_option maxRecDepth 100000 in
set_option maxHeartbeats 1000000 in
theorem refColumns_any (w : World) :
    Calls Try.prog 35 #[] w fun e w' => e = .returned (.agg colsV) ∧ Below w.heap.size w w' := by
  have hz := zero74
  go_enter Try.func35, Try.ntmps35
  go_wp2
  clear hz
  obtain ⟨b0, hb0⟩ : ∃ b0, w.heap.size = b0 := ⟨_, rfl⟩
  obtain ⟨W0, hW0⟩ : ∃ W0, (w.alloc (.cells (colsAt 0) 74)).alloc (.cells (colsAt 0) 74) = W0 := ⟨_, rfl⟩
  rw [hW0, hb0]
  have k0 : Blk W0 b0 74 (colsAt 0) := by rw [← hW0, ← hb0]; exact (Blk.new w _ _).alloc _
  have k1 : Blk W0 (b0 + 1) 74 (colsAt 0) := by
    rw [← hW0, ← hb0]; have h := Blk.new (w.alloc (.cells (colsAt 0) 74)) 74 (colsAt 0)
    rw [World.size_alloc] at h; exact h
  have kb : Below b0 w W0 := by rw [← hW0, ← hb0]; exact ((Below.refl _ w).alloc (Nat.le_refl _) _).alloc (by simp) _
  have HB0 := Lib.hid hb0
  have K0 := Lib.hid k0
  have K1 := Lib.hid k1
  have KB := Lib.hid kb
  clear hW0 hb0 k0 k1 kb
  go_loopw [2] (fun i wr => ∃ k : Nat, k ≤ 74 ∧ i = .int .i64 k ∧ Blk wr (b0 + 1) 74 (colsAt k) ∧ Blk wr b0 74 (colsAt 0) ∧ Below b0 w wr) (fun i _ => 74 - (intOf i).toNat)
  case atStart => exact ⟨0, by omega, rfl, K1.out, K0.out, KB.out⟩
  case round =>
    obtain ⟨k, hk, rfl, h0, h1, h2⟩ := hrel
    clear K0 K1 KB
    by_cases hlt : k < 74
    · obtain ⟨v, hv⟩ := colsAt_get hk hlt
      have e0 : wr.cell? ⟨b0 + 1, k, none⟩ = some v := by rw [h0.cell]; exact hv
      have f0 := h0.frozen k
      have i1 : (k : Int) < 74 := by omega
      have RC := refColumn_any (k : Int) (by omega) (by omega) wr
      rw [show colI (k : Int) = col k by unfold colI; rw [if_pos (by omega)]; rfl] at RC
      have hs := colsAt_succ hlt
      obtain ⟨c, hc⟩ : ∃ c, col k = c := ⟨_, rfl⟩
      rw [hc] at RC hs
      have HRC := Lib.hid RC
      have HI := Lib.hid (And.intro h0 (And.intro h1 (And.intro h2 hs)))
      clear RC h0 h1 h2 hs hc hv
      go_wp2_with fail
      refine HRC.out.mono ?_
      rintro e w' ⟨rfl, rfl⟩
      go_wp2
      go_roundw
      case rel =>
        obtain ⟨h0, h1, h2, hs⟩ := HI.out
        exact ⟨k + 1, by omega, by go_num, by rw [← hs]; exact h0.set_ k _, h1.far (p := ⟨b0 + 1, k, none⟩) (by show b0 ≠ b0 + 1; omega) _, h2.setCell (p := ⟨b0 + 1, k, none⟩) (by show b0 ≤ b0 + 1; omega) _⟩
      case measure => simp [intOf]; omega
    · obtain rfl : k = 74 := by omega
      rw [show ((74 : Nat) : Int) = 74 from rfl]
      have hsz : (colsAt 74).size = 74 := colsAt_size (Nat.le_refl _)
      have hi1 : (Try.prog.info? 74).map (·.size) = some (colsAt 74).size := by rw [hsz]; exact info74
      have hst := run_storeRow (P := Try.prog) h1 (cs := colsAt 74) (by rw [hsz, colsAt_size (by omega)]) colsAt_one
      have HI := Lib.hid (And.intro h0 (And.intro h1 (And.intro h2 hi1)))
      clear h0 h1 h2 hsz hi1
      go_wp2_with (refine wpList_load_row rfl 74 (.tmp 1) rfl (b0 + 1) rfl 74 (colsAt 74) (0, 0) _ HI.out.1 Try.underlying74 rfl HI.out.2.2.2 ?_)
      obtain ⟨h0, h1, h2, hi1⟩ := HI.out
      refine bodyPost_ret (v := .agg colsV) (results_cell_row rfl _ _ b0 74 (colsAt 74) (0, 0) _ rfl (h1.setRow _) Try.underlying74 rfl hi1) rfl ⟨rfl, ?_⟩
      rw [HB0.out]
      exact below_setRow h2 (Nat.le_refl _) _

theorem boxArr (cv : Array Value) (w : World) : (Instr.box 74 (.agg cv)).run Try.prog w = .ok (.pointer (some ⟨w.heap.size, 0, none⟩)) (w.alloc (.cells cv 74)) := rfl

set_option maxRecDepth 100000 in
set_option maxHeartbeats 1000000 in
theorem refSyndrome_any (d k : Nat) (ld : d < 18446744073709551616) (lk : k < 256) (a p : Int) (w : World) :
    Calls Try.prog 37 #[.agg colsV, .int .u64 (d : Int), .int .u8 (k : Int), .int .i64 a, .int .i64 p] w fun e w' => e = .returned (.int .u8 ((chk d (low a) (low p) ^^^ k : Nat) : Int)) ∧ Below w.heap.size w w' := by
  obtain ⟨cv, hcv⟩ : ∃ cv, colsV = cv := ⟨_, rfl⟩
  have hb := boxArr cv
  have CG := fun i (hi : i < 74) => (show cv[i]? = some (.int .u8 (col i : Nat)) by rw [← hcv]; exact colsV_get hi)
  have la := i64_and1I a
  have lp := i64_and1I p
  have ma := low_lt a
  have mp := low_lt p
  have hch : chk d (low a) (low p) ^^^ k = (k ^^^ cs d) ^^^ mark (low a) 72 ^^^ mark (low p) 73 := by
    unfold chk
    rw [Nat.xor_comm _ k, ← Nat.xor_assoc, ← Nat.xor_assoc]
  obtain ⟨x, hx⟩ : ∃ x, low a = x := ⟨_, rfl⟩
  obtain ⟨y, hy⟩ : ∃ y, low p = y := ⟨_, rfl⟩
  rw [hx] at la ma hch ⊢
  rw [hy] at lp mp hch ⊢
  rw [hcv]
  have HCG := Lib.hid CG
  have HCH := Lib.hid hch
  have lS := cs_lt d
  clear hcv CG hch hx hy
  go_enter Try.func37, Try.ntmps37
  go_wp2
  clear hb
  obtain ⟨b0, hb0⟩ : ∃ b0, w.heap.size = b0 := ⟨_, rfl⟩
  obtain ⟨W, hW⟩ : ∃ W, w.alloc (.cells cv 74) = W := ⟨_, rfl⟩
  rw [hW, hb0]
  have kb : Below b0 w W := by rw [← hW, ← hb0]; exact (Below.refl _ w).alloc (Nat.le_refl _) _
  have kc : ∀ i, i < 74 → W.cell? ⟨b0, i, none⟩ = some (.int .u8 (col i : Nat)) := fun i hi => by
    have h : Blk W b0 74 cv := by rw [← hW, ← hb0]; exact Blk.new w _ _
    rw [h.cell]; exact HCG.out i hi
  have HB0 := Lib.hid hb0
  have KB := Lib.hid kb
  have KC := Lib.hid kc
  clear hW hb0 kb kc HCG
  go_loop [1, 11, 12] (fun z s i => ∃ j q t : Nat, j ≤ 64 ∧ i = .int .i64 j ∧ q < 18446744073709551616 ∧ z = .int .u64 q ∧ t < 256 ∧ s = .int .u8 t ∧ t ^^^ csTo (64 - j) j q = k ^^^ cs d) (fun _ _ i => 64 - (intOf i).toNat)
  case atStart => exact ⟨0, d, k, by omega, rfl, ld, rfl, lk, rfl, rfl⟩
  case round =>
    obtain ⟨j, q, t, hj, rfl, lq, rfl, lt, rfl, hr⟩ := hrel
    by_cases hlt : j < 64
    · rw [show 64 - j = (63 - j) + 1 by omega, csTo] at hr
      have kc := KC.out j (by omega)
      have lc := col_lt j
      obtain ⟨c, hc⟩ : ∃ c, col j = c := ⟨_, rfl⟩
      rw [hc] at kc lc hr
      have hxor := u8_xorN t c lt lc
      have i1 : (j : Int) < 74 := by omega
      by_cases ho : q % 2 = 1
      · rw [if_pos ho, ← Nat.xor_assoc] at hr
        have q1 : ((q : Int) % 2 == 1) = true := by rw [beq_iff_eq]; omega
        have HR := Lib.hid hr
        have LL := Lib.hid (Nat.xor_lt_two_pow (n := 8) lt lc : t ^^^ c < 256)
        clear hr ho hc
        go_wp2
        go_round
        case rel => exact ⟨j + 1, q / 2, t ^^^ c, by omega, by go_num, by omega, by go_num, LL.out, rfl, by rw [show 64 - (j + 1) = 63 - j by omega]; exact HR.out⟩
        case measure => simp [intOf]; omega
      · rw [if_neg ho, Nat.zero_xor] at hr
        have q1 : ((q : Int) % 2 == 1) = false := by rw [beq_eq_false_iff_ne]; omega
        have HR := Lib.hid hr
        clear hr ho hc
        go_wp2
        go_round
        case rel => exact ⟨j + 1, q / 2, t, by omega, by go_num, by omega, by go_num, lt, rfl, by rw [show 64 - (j + 1) = 63 - j by omega]; exact HR.out⟩
        case measure => simp [intOf]; omega
    · obtain rfl : j = 64 := by omega
      rw [show ((64 : Nat) : Int) = 64 from rfl]
      rw [Nat.sub_self, show csTo 0 64 q = 0 from rfl, Nat.xor_zero] at hr
      have k72 := KC.out 72 (by omega)
      have k73 := KC.out 73 (by omega)
      have l72 := col_lt 72
      have l73 := col_lt 73
      have hch := HCH.out
      rw [← hr] at hch
      have m72 : mark x 72 = if x % 2 = 1 then col 72 else 0 := rfl
      have m73 : mark y 73 = if y % 2 = 1 then col 73 else 0 := rfl
      obtain ⟨P, hP⟩ : ∃ P, col 72 = P := ⟨_, rfl⟩
      obtain ⟨Q, hQ⟩ : ∃ Q, col 73 = Q := ⟨_, rfl⟩
      rw [hP] at k72 l72 m72
      rw [hQ] at k73 l73 m73
      rw [m72, m73] at hch
      have x1 := u8_xorN t P lt l72
      have x2 := u8_xorN t Q lt l73
      have x3 := u8_xorN (t ^^^ P) Q (Nat.xor_lt_two_pow (n := 8) lt l72) l73
      have HC := Lib.hid hch
      clear hch m72 m73 hP hQ hr HCH l72 l73
      have hx2 : x = 0 ∨ x = 1 := by omega
      have hy2 : y = 0 ∨ y = 1 := by omega
      clear ma mp
      rcases hx2 with rfl | rfl <;> rcases hy2 with rfl | rfl
      · rw [show ((0 : Nat) : Int) = 0 from rfl] at la lp
        have HD := Lib.hid (show chk d 0 0 ^^^ k = t by rw [HC.out]; simp)
        clear HC x1 x2 x3
        go_wp2
        go_ret
        rw [HD.out, HB0.out]; exact ⟨rfl, KB.out⟩
      · rw [show ((0 : Nat) : Int) = 0 from rfl] at la
        rw [show ((1 : Nat) : Int) = 1 from rfl] at lp
        have HD := Lib.hid (show chk d 0 1 ^^^ k = t ^^^ Q by rw [HC.out]; simp)
        clear HC x1 x3
        go_wp2
        go_ret
        rw [HD.out, HB0.out]; exact ⟨rfl, KB.out⟩
      · rw [show ((0 : Nat) : Int) = 0 from rfl] at lp
        rw [show ((1 : Nat) : Int) = 1 from rfl] at la
        have HD := Lib.hid (show chk d 1 0 ^^^ k = t ^^^ P by rw [HC.out]; simp)
        clear HC x2 x3
        go_wp2
        go_ret
        rw [HD.out, HB0.out]; exact ⟨rfl, KB.out⟩
      · rw [show ((1 : Nat) : Int) = 1 from rfl] at la lp
        have HD := Lib.hid (show chk d 1 1 ^^^ k = t ^^^ P ^^^ Q by rw [HC.out]; simp)
        clear HC x2
        go_wp2
        go_ret
        rw [HD.out, HB0.out]; exact ⟨rfl, KB.out⟩

end Go.Proofs.Ytkeheickaogpiaa.Hs
