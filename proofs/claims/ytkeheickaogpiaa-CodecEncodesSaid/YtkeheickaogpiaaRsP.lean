/- Several texts in one: RsM AppB GfI PolyI RsN. -/
import Derived.Test.YtkeheickaogpiaaPoA
import Derived.Test.YtkeheickaogpiaaPoB
import Derived.Laws.Append
import Derived.Laws.OwnMore
import Derived.Test.YtkeheickaogpiaaGfB
import Derived.Test.YtkeheickaogpiaaGfA
import Derived.Test.YtkeheickaogpiaaRfA
import Derived.Shelf.Abstract
import Derived.OwnWalkIn
import Derived.TacticsInMore
import Derived.LoopNIn
import Derived.LoopIn
import Derived.Shelf.Spec.SlicesGrow
namespace Go.Proofs.Ytkeheickaogpiaa

theorem pw_mul (x : UInt8) (m n : Nat) : pw (pw x m) n = pw x (m * n) := by
  induction n with
  | zero => rfl
  | succ n ih => rw [pw, ih, Nat.mul_succ, pw_add]
theorem pw_swap (x : UInt8) (m n : Nat) : pw (pw x m) n = pw (pw x n) m := by rw [pw_mul, pw_mul, Nat.mul_comm]
/-- Sums over a list of values and elements. -/
def vs (l : List (UInt8 × UInt8)) (j : Nat) : UInt8 := l.foldr (fun p s => gm p.1 (pw p.2 j) ^^^ s) 0
theorem vs_cons (p : UInt8 × UInt8) (l : List (UInt8 × UInt8)) (j : Nat) : vs (p :: l) j = gm p.1 (pw p.2 j) ^^^ vs l j := rfl
theorem vs_step (x : UInt8) (l : List (UInt8 × UInt8)) (j : Nat) : vs (l.map fun p => (gm p.1 (p.2 ^^^ x), p.2)) j = vs l (j + 1) ^^^ gm x (vs l j) := by
  induction l with
  | nil => show (0 : UInt8) = 0 ^^^ gm x 0; rw [gm_zero]; rfl
  | cons p l ih =>
    rw [List.map_cons, vs_cons, vs_cons, vs_cons, ih, gm_xor x]
    have h : gm (gm p.1 (p.2 ^^^ x)) (pw p.2 j) = gm p.1 (pw p.2 (j + 1)) ^^^ gm x (gm p.1 (pw p.2 j)) := by
      rw [gm_xor, xor_gm, pw, gm_assoc, gm_comm p.2 (pw p.2 j), gm_assoc p.1 x, gm_left_comm p.1 x]
    rw [h, x4]
theorem vand : ∀ (l : List (UInt8 × UInt8)) (k : Nat), l.length ≤ k → l.Pairwise (fun p q => p.2 ≠ q.2) → (∀ j, j < k → vs l j = 0) → ∀ p ∈ l, p.1 = 0
  | [], _, _, _, _ => fun _ h => by cases h
  | a :: l, k, hk, hd, hs => by
    obtain ⟨k, rfl⟩ : ∃ m, k = m + 1 := ⟨k - 1, by simp at hk; omega⟩
    obtain ⟨hd1, hd2⟩ := List.pairwise_cons.1 hd
    have h1 : ∀ p ∈ l.map fun p => (gm p.1 (p.2 ^^^ a.2), p.2), p.1 = 0 := by
      refine vand _ k (by simpa using hk) ?_ fun j hj => ?_
      · rw [List.pairwise_map]; exact hd2
      · rw [vs_step]
        have e1 := hs (j + 1) (by omega)
        have e0 := hs j (by omega)
        rw [vs_cons] at e1 e0
        have e1' : vs l (j + 1) = gm a.1 (pw a.2 (j + 1)) := (UInt8.xor_eq_zero_iff.1 e1).symm
        have e0' : vs l j = gm a.1 (pw a.2 j) := (UInt8.xor_eq_zero_iff.1 e0).symm
        rw [e1', e0', pw, gm_comm (pw a.2 j) a.2, gm_left_comm, UInt8.xor_self]
    have h2 : ∀ p ∈ l, p.1 = 0 := fun p hp => by
      have h3 := h1 _ (List.mem_map_of_mem hp)
      apply Classical.byContradiction
      intro hne
      refine gm_ne _ _ hne (fun e => ?_) h3
      exact hd1 p hp (UInt8.xor_eq_zero_iff.1 e).symm
    have h4 : ∀ m : List (UInt8 × UInt8), (∀ p ∈ m, p.1 = 0) → vs m 0 = 0 := fun m => by
      induction m with
      | nil => intro _; rfl
      | cons p m ih =>
        intro hm
        rw [vs_cons, hm p (List.mem_cons_self), zero_gm, ih fun q hq => hm q (List.mem_cons_of_mem _ hq)]
        rfl
    intro p hp
    rcases List.mem_cons.1 hp with rfl | hp
    · have e0 := hs 0 (by omega)
      rw [vs_cons, h4 l h2, UInt8.xor_zero] at e0
      exact (gm_one p.1).symm.trans e0
    · exact h2 p hp
/-- The powers of two, far enough, are unlike. -/
theorem pw2_gE (i : Nat) : (pw 2 i).toNat = gE (i % 255) := by
  induction i with
  | zero => decide +kernel
  | succ i ih =>
    rw [pw, gm_toNat, ih]
    have h2 : (2 : UInt8).toNat = gE 1 := by decide +kernel
    rw [h2, gmulN_gE _ _ (Nat.mod_lt _ (by omega)) (by decide +kernel)]
    have h3 : gL (gE 1) = 1 := by decide +kernel
    rw [h3]
    congr 1
    omega
theorem gE_inj : ∀ i, i < 255 → gL (gE i) = i := by decide +kernel
theorem pw2_inj {i j : Nat} (hi : i < 255) (hj : j < 255) (h : pw 2 i = pw 2 j) : i = j := by
  have h1 := congrArg UInt8.toNat h
  rw [pw2_gE, pw2_gE, Nat.mod_eq_of_lt hi, Nat.mod_eq_of_lt hj] at h1
  rw [← gE_inj i hi, ← gE_inj j hj, h1]
theorem pw2_log {x : UInt8} (h : x ≠ 0) : pw 2 (gL x.toNat) = x := by
  have hx : x.toNat ≠ 0 := fun e => h (UInt8.toNat_inj.1 e)
  have h1 : ∀ a, a < 256 → a ≠ 0 → gL a < 255 ∧ gE (gL a) = a := by decide +kernel
  obtain ⟨h2, h3⟩ := h1 x.toNat x.toNat_lt hx
  apply UInt8.toNat_inj.1
  rw [pw2_gE, Nat.mod_eq_of_lt h2, h3]
theorem gL_lt255 {x : UInt8} (h : x ≠ 0) : gL x.toNat < 255 := by
  have hx : x.toNat ≠ 0 := fun e => h (UInt8.toNat_inj.1 e)
  have h1 : ∀ a, a < 256 → a ≠ 0 → gL a < 255 := by decide +kernel
  exact h1 x.toNat x.toNat_lt hx
/-- What few places hold is nothing, if it is 0 at the roots. -/
def supp (e : Nat → UInt8) (n : Nat) : List Nat := (List.range n).filter fun i => e i != 0
theorem supp_succ (e : Nat → UInt8) (n : Nat) : supp e (n + 1) = supp e n ++ (if e n != 0 then [n] else []) := by
  unfold supp
  rw [List.range_succ, List.filter_append]
  congr 1
  by_cases h : e n != 0
  · rw [if_pos h]; simp [List.filter, h]
  · rw [if_neg h]; simp [List.filter, h]
theorem vs_append (l m : List (UInt8 × UInt8)) (j : Nat) : vs (l ++ m) j = vs l j ^^^ vs m j := by
  induction l with
  | nil => rw [List.nil_append]; exact (UInt8.zero_xor).symm
  | cons p l ih => rw [List.cons_append, vs_cons, vs_cons, ih, UInt8.xor_assoc]
theorem vs_supp (e : Nat → UInt8) (n j : Nat) : vs ((supp e n).map fun i => (e i, pw 2 i)) j = xs n fun i => gm (e i) (pw (pw 2 j) i) := by
  induction n with
  | zero => rfl
  | succ n ih =>
    rw [supp_succ, List.map_append, vs_append, ih, xs_succ]
    congr 1
    by_cases h : e n = 0
    · rw [if_neg (by simp [h]), h, zero_gm]; rfl
    · rw [if_pos (by simp [h]), pw_swap]
      exact UInt8.xor_zero
theorem mds {e : Nat → UInt8} {n : Nat} (hn : n ≤ 255) (hw : (supp e n).length ≤ 4) (h : ∀ j, j < 4 → (xs n fun i => gm (e i) (pw (pw 2 j) i)) = 0) : ∀ i, i < n → e i = 0 := by
  intro i hi
  apply Classical.byContradiction
  intro hne
  have h1 := vand ((supp e n).map fun i => (e i, pw 2 i)) 4 (by simpa using hw) (by
    rw [List.pairwise_map]
    refine (List.Pairwise.filter _ (List.nodup_range (n := n))).imp_of_mem ?_
    intro a b ha hb hab hp
    have ha' := (List.mem_filter.1 ha).1
    have hb' := (List.mem_filter.1 hb).1
    exact hab (pw2_inj (by have := List.mem_range.1 ha'; omega) (by have := List.mem_range.1 hb'; omega) hp)) (fun j hj => by rw [vs_supp]; exact h j hj)
  exact hne (h1 _ (List.mem_map.2 ⟨i, List.mem_filter.2 ⟨List.mem_range.2 hi, by simp [hne]⟩, rfl⟩))

/-- A verdict: its kind, place and value. -/
structure Vd where
  kind : Nat
  place : Int
  val : UInt8
deriving DecidableEq
/-- Does the one place i, by itself, tell these syndromes? -/
def hit (s : Nat → UInt8) (i : Nat) : Bool := s 0 != 0 && s 1 == gm (s 0) (pw 2 i) && s 2 == gm (s 1) (pw 2 i) && s 3 == gm (s 2) (pw 2 i)
theorem hit_iff (s : Nat → UInt8) (i : Nat) : hit s i = true ↔ s 0 ≠ 0 ∧ s 1 = gm (s 0) (pw 2 i) ∧ s 2 = gm (s 1) (pw 2 i) ∧ s 3 = gm (s 2) (pw 2 i) := by
  unfold hit
  simp only [Bool.and_eq_true, bne_iff_ne, beq_iff_eq, and_assoc]
theorem gm_cancel {a x y : UInt8} (ha : a ≠ 0) (h : gm a x = gm a y) : x = y := by
  have h1 : gm a (x ^^^ y) = 0 := by rw [gm_xor, h, UInt8.xor_self]
  apply Classical.byContradiction
  intro hne
  exact gm_ne _ _ ha (fun e => hne (UInt8.xor_eq_zero_iff.1 e)) h1
theorem hit_uniq {s : Nat → UInt8} {i j : Nat} (hi : i < 255) (hj : j < 255) (h1 : hit s i = true) (h2 : hit s j = true) : i = j := by
  obtain ⟨a1, a2, _⟩ := (hit_iff s i).1 h1
  obtain ⟨_, b2, _⟩ := (hit_iff s j).1 h2
  exact pw2_inj hi hj (gm_cancel a1 (a2.symm.trans b2))
def fnd (s : Nat → UInt8) : Nat → Option Nat
  | 0 => none
  | k + 1 => match fnd s k with
    | some i => some i
    | none => if hit s k then some k else none
theorem fnd_none {s : Nat → UInt8} {k : Nat} : fnd s k = none ↔ ∀ i, i < k → hit s i = false := by
  induction k with
  | zero => exact ⟨fun _ i hi => by omega, fun _ => rfl⟩
  | succ k ih =>
    rw [fnd]
    cases h : fnd s k with
    | some i =>
      refine ⟨fun h => (by cases h), fun h2 => ?_⟩
      have := ih.2 fun i hi => h2 i (by omega)
      rw [h] at this; cases this
    | none =>
      by_cases h2 : hit s k = true
      · simp only [h2, if_true]
        exact ⟨fun h => (by cases h), fun h3 => by rw [h3 k (by omega)] at h2; cases h2⟩
      · simp only [h2]
        refine ⟨fun _ i hi => ?_, fun _ => rfl⟩
        by_cases e : i = k
        · subst e; simpa using h2
        · exact (ih.1 h) i (by omega)
theorem fnd_some {s : Nat → UInt8} {k i : Nat} (hk : k ≤ 255) (hi : i < k) (h : hit s i = true) : fnd s k = some i := by
  cases hf : fnd s k with
  | none => rw [fnd_none.1 hf i hi] at h; cases h
  | some j =>
    have key : ∀ k, fnd s k = some j → j < k ∧ hit s j = true := fun k => by
      induction k with
      | zero => intro h; cases h
      | succ k ih =>
        intro h
        rw [fnd] at h
        cases h2 : fnd s k with
        | some l =>
          rw [h2] at h
          obtain rfl := Option.some.inj h
          have := ih h2
          exact ⟨by omega, this.2⟩
        | none =>
          rw [h2] at h
          by_cases h3 : hit s k = true
          · simp only [h3, if_true] at h
            obtain rfl := Option.some.inj h
            exact ⟨by omega, h3⟩
          · simp only [h3] at h; cases h
    obtain ⟨h1, h2⟩ := key k hf
    rw [hit_uniq (by omega) (by omega) h2 h]
def nul (s : Nat → UInt8) : Prop := s 0 = 0 ∧ s 1 = 0 ∧ s 2 = 0 ∧ s 3 = 0
instance (s : Nat → UInt8) : Decidable (nul s) := by unfold nul; exact inferInstance
/-- The verdict of four syndromes. -/
def locF (s : Nat → UInt8) : Vd := if nul s then ⟨0, -1, 0⟩ else match fnd s 39 with
  | some i => if 35 < i then ⟨2, i, s 0⟩ else ⟨1, i, s 0⟩
  | none => ⟨3, -1, 0⟩
theorem locF_nul {s : Nat → UInt8} (h : nul s) : locF s = ⟨0, -1, 0⟩ := if_pos h
theorem hit_not_nul {s : Nat → UInt8} {i : Nat} (h : hit s i = true) : ¬ nul s := fun hn => ((hit_iff s i).1 h).1 hn.1
theorem locF_lo {s : Nat → UInt8} {i : Nat} (hi : i ≤ 35) (h : hit s i = true) : locF s = ⟨1, i, s 0⟩ := by
  unfold locF
  rw [if_neg (hit_not_nul h), fnd_some (by omega) (show i < 39 by omega) h]
  exact if_neg (by omega)
theorem locF_hi {s : Nat → UInt8} {i : Nat} (h1 : 35 < i) (hi : i < 39) (h : hit s i = true) : locF s = ⟨2, i, s 0⟩ := by
  unfold locF
  rw [if_neg (hit_not_nul h), fnd_some (by omega) hi h]
  exact if_pos h1
theorem locF_lost {s : Nat → UInt8} (h0 : ¬ nul s) (h : ∀ i, i < 39 → hit s i = false) : locF s = ⟨3, -1, 0⟩ := by
  unfold locF
  rw [if_neg h0, fnd_none.2 h]
theorem locF_congr {s t : Nat → UInt8} (h : ∀ i, i < 4 → s i = t i) : locF s = locF t := by
  have hh : ∀ i, hit s i = hit t i := fun i => by unfold hit; rw [h 0 (by omega), h 1 (by omega), h 2 (by omega), h 3 (by omega)]
  have hf : ∀ k, fnd s k = fnd t k := fun k => by
    induction k with
    | zero => rfl
    | succ k ih => rw [fnd, fnd, ih, hh]
  have hn : nul s ↔ nul t := by unfold nul; rw [h 0 (by omega), h 1 (by omega), h 2 (by omega), h 3 (by omega)]
  unfold locF
  by_cases hs : nul s
  · rw [if_pos hs, if_pos (hn.1 hs)]
  · rw [if_neg hs, if_neg (fun e => hs (hn.2 e)), hf, h 0 (by omega)]
/-- By its ratio. -/
theorem hit_ratio {s : Nat → UInt8} {r : UInt8} (h0 : s 0 ≠ 0) (hr : gm r (s 0) = s 1) (hr0 : r ≠ 0) (h2 : s 2 = gm (s 1) r) (h3 : s 3 = gm (s 2) r) : hit s (gL r.toNat) = true := by
  rw [hit_iff, pw2_log hr0]
  exact ⟨h0, by rw [← hr, gm_comm], h2, h3⟩
theorem no_hit_ratio {s : Nat → UInt8} {r : UInt8} (hr : gm r (s 0) = s 1) (h : r = 0 ∨ s 2 ≠ gm (s 1) r ∨ s 3 ≠ gm (s 2) r) (i : Nat) : hit s i = false := by
  cases hh : hit s i with
  | false => rfl
  | true =>
    exfalso
    obtain ⟨a0, a1, a2, a3⟩ := (hit_iff s i).1 hh
    have e : r = pw 2 i := gm_cancel a0 (by rw [gm_comm, hr, a1])
    subst e
    rcases h with h | h | h
    · have h5 := pw2_gE i
      rw [h] at h5
      have h6 : ∀ m, m < 255 → gE m ≠ 0 := by decide +kernel
      exact h6 (i % 255) (Nat.mod_lt _ (by omega)) h5.symm
    · exact h a2
    · exact h a3
end Go.Proofs.Ytkeheickaogpiaa
namespace Go.Proofs.Ytkeheickaogpiaa
open Go.RowKit Go.Shelf
set_option linter.unusedVariables false
set_option maxRecDepth 100000

theorem rd_cells {w : World} {ad : Addr} {ys : List UInt8} (hr : RdB w (some ad) ys) : ∀ j u, (ys.map vU)[j]? = some u → w.cell? (ad.add j) = some u := by
  intro j u hj
  rw [List.getElem?_map] at hj
  cases hy : ys[j]? with
  | none => rw [hy] at hj; cases hj
  | some y =>
    rw [hy] at hj
    obtain rfl := Option.some.inj hj
    obtain ⟨hlt, hye⟩ := List.getElem?_eq_some_iff.1 hy
    obtain ⟨b, o, hAe, _, hc⟩ := hr j hlt
    obtain rfl := Option.some.inj hAe
    have hadd : (⟨b, o, none⟩ : Addr).add j = ⟨b, o + j, none⟩ := by
      unfold Addr.add
      split
      · rename_i h0; subst h0; rfl
      · rfl
    rw [hadd, hc, List.getD_eq_getElem?_getD, hy]
    rfl
theorem vU_one : ∀ (ys : List UInt8), ∀ u ∈ ys.map vU, u.oneCell' = true := fun ys u hu => by obtain ⟨y, _, rfl⟩ := List.mem_map.1 hu; rfl
theorem zeroCells_list (n : Nat) : (Builtin.zeroCells #[Value.int .u8 0] n).toList.length = n := by rw [Array.length_toList, size_zeroCells]; simp
/-- In place. -/
theorem run_app_room {w : World} {g : Nat} {xs ys : List UInt8} {rest : List Value} {ad : Addr} {c : Nat} (hb : Blk w g 5 (rowV xs rest)) (hr : RdB w (some ad) ys) (hl : ys.length ≤ rest.length) (ty : TypeId) :
    (Builtin.append_ #[56, 56] ty #[.slice (some ⟨g, 0, none⟩) xs.length (xs.length + rest.length), .slice (some ad) ys.length c]).run Try.prog w = .ok (.slice (some ⟨g, 0, none⟩) (xs.length + ys.length) (xs.length + rest.length)) (w.setRow g (rowV (xs ++ ys) (rest.drop ys.length))) := by
  obtain ⟨i0, hi, hz0, hz1, hz2⟩ := info_parts infoU8
  have h := run_append_room (P := Try.prog) w 56 ty 5 i0 Try.underlying56 hi g xs.length (xs.length + rest.length) (rowV xs rest) hb ad ys.length c (ys.map vU) (by simp [hz1]) (rd_cells hr) (vU_one ys) (by omega) (by rw [hz1, rowV_size]; simp; omega)
  rw [h, hz1]
  congr 2
  unfold rowV
  congr 1
  simp only [Nat.mul_one, List.length_map, List.map_append]
  rw [List.take_append_of_le_length (by simp), List.take_of_length_le (by simp)]
  congr 1
  rw [List.drop_append]
  simp
/-- In a new block. -/
theorem run_app_grow {w : World} {g : Nat} {xs ys : List UInt8} {rest : List Value} {ad : Addr} {c : Nat} (hb : Blk w g 5 (rowV xs rest)) (hr : RdB w (some ad) ys) (hl : rest.length < ys.length) (hs : xs.length + ys.length ≤ 1000000) :
    ∃ rest', xs.length + ys.length + rest'.length ≤ maxLen ∧ ∀ ty, (Builtin.append_ #[56, 56] ty #[.slice (some ⟨g, 0, none⟩) xs.length (xs.length + rest.length), .slice (some ad) ys.length c]).run Try.prog w = .ok (.slice (some ⟨w.heap.size, 0, none⟩) (xs.length + ys.length) (xs.length + ys.length + rest'.length)) (w.drew.alloc (.cells (rowV (xs ++ ys) rest') 5)) := by
  obtain ⟨i0, hi, hz0, hz1, hz2⟩ := info_parts infoU8
  have hge := grownCap_ge w (xs.length + ys.length) (xs.length + rest.length) 5
  have hcm := grownCap_le_maxLen w (xs.length + ys.length) (xs.length + rest.length) 5 (by unfold maxLen; omega)
  obtain ⟨G, hG⟩ : ∃ G, grownCap w (xs.length + ys.length) (xs.length + rest.length) 5 = G := ⟨_, rfl⟩
  have hlr : (Builtin.zeroCells (Value.int .u8 0).cells (G - (xs.length + ys.length))).toList.length = G - (xs.length + ys.length) := zeroCells_list _
  rw [hG] at hge hcm
  refine ⟨(Builtin.zeroCells (Value.int .u8 0).cells (G - (xs.length + ys.length))).toList, by rw [hlr]; omega, fun ty => ?_⟩
  have h := run_append_grow (P := Try.prog) w 56 ty 5 i0 (.int .u8 0) Try.underlying56 hi hz0 ⟨g, 0, none⟩ xs.length (xs.length + rest.length) (xs.map vU) (by simp [hz1]) (rd_cells (RdB.row hb)) ad ys.length c (ys.map vU) (by simp [hz1]) (rd_cells hr) (by omega) (by omega) (by
    have := growslice_fits (need := xs.length + ys.length) (old := xs.length + rest.length) (bytes := i0.bytes) (by omega) (by rw [hz2]; omega)
    exact this)
  rw [h, hG, hlr]
  have e1 : xs.length + ys.length + (G - (xs.length + ys.length)) = G := by omega
  rw [e1]
  congr 3
  unfold rowV
  simp
/-- To none. -/
theorem run_app_nil {w : World} {ys : List UInt8} {ad : Addr} {c : Nat} (hr : RdB w (some ad) ys) (h0 : 0 < ys.length) (hs : ys.length ≤ 1000000) :
    ∃ rest', ys.length + rest'.length ≤ maxLen ∧ ∀ ty, (Builtin.append_ #[56, 56] ty #[.slice none 0 0, .slice (some ad) ys.length c]).run Try.prog w = .ok (.slice (some ⟨w.heap.size, 0, none⟩) ys.length (ys.length + rest'.length)) (w.drew.alloc (.cells (rowV ys rest') 5)) := by
  obtain ⟨i0, hi, hz0, hz1, hz2⟩ := info_parts infoU8
  have hge := grownCap_ge w ys.length 0 5
  have hcm := grownCap_le_maxLen w ys.length 0 5 (by unfold maxLen; omega)
  obtain ⟨G, hG⟩ : ∃ G, grownCap w ys.length 0 5 = G := ⟨_, rfl⟩
  have hlr : (Builtin.zeroCells (Value.int .u8 0).cells (G - ys.length)).toList.length = G - ys.length := zeroCells_list _
  rw [hG] at hge hcm
  refine ⟨(Builtin.zeroCells (Value.int .u8 0).cells (G - ys.length)).toList, by rw [hlr]; omega, fun ty => ?_⟩
  have h := run_append_nil (P := Try.prog) w 56 ty 5 i0 (.int .u8 0) Try.underlying56 hi hz0 ad ys.length c (ys.map vU) (by simp [hz1]) (rd_cells hr) h0 (by omega) (by rw [hz2]; omega)
  rw [h, hG, hlr]
  have e1 : ys.length + (G - ys.length) = G := by omega
  rw [e1]
  congr 3
  unfold rowV
  simp
end Go.Proofs.Ytkeheickaogpiaa
namespace Go.Proofs.Ytkeheickaogpiaa
open Go.RowKit Go.Shelf
attribute [local go_sem] Oper.semAt_some

theorem Keep.cell {K : Nat → Prop} {W W' : World} (h : Keep K W W') {p : Addr} (hp : K p.block) {v : Value} (hc : W.cell? p = some v) : W'.cell? p = some v := by
  rw [World.cell?_of_block (h.same _ hp)]; exact hc

theorem Keep.drewN (K : Nat → Prop) (W : World) (n : Nat) : Keep K W (W.drewN n) := ⟨Nat.le_refl _, fun _ _ => rfl⟩

theorem powers_any (b : Nat) (a : Int) (n : Int) (w : World) :
    Calls Try.prog 71 #[.pointer (some ⟨b, 0, none⟩), .int .u8 a, .int .i64 n] w fun e w' =>
      e = .returned (.func (.func 89) #[] #[.pointer (some ⟨w.heap.size + 2, 0, none⟩), .pointer (some ⟨w.heap.size, 0, none⟩), .pointer (some ⟨w.heap.size + 1, 0, none⟩)]) ∧
      w' = ((w.alloc (.cells #[.pointer (some ⟨b, 0, none⟩)] 93)).alloc (.cells #[.int .u8 a] 5)).alloc (.cells #[.int .i64 n] 3) := by
  go_enter Try.func71, Try.ntmps71
  go_wp2
  go_ret
  exact ⟨rfl, rfl⟩

set_option maxRecDepth 100000 in
set_option maxHeartbeats 1000000 in
theorem powers_iter (n : Nat) (h1 : 1 ≤ n) (b bn bf ba x N : Nat) (lx : x < 256) (lN : N < 9223372036854775808) (m : Int) (hm : max m 0 = N) :
    Iter Fence.wide n Try.prog 89 #[.pointer (some ⟨bn, 0, none⟩), .pointer (some ⟨bf, 0, none⟩), .pointer (some ⟨ba, 0, none⟩)]
      (fun p : Nat × Nat => #[.int .i64 (p.1 : Int), .int .u8 (p.2 : Int)]) ((List.range N).map fun i => (i, gpow x i)) (fun _ => False) (fun c => c = bn ∨ c = bf ∨ c = ba ∨ c = b)
      (fun W => W.cell? ⟨bn, 0, none⟩ = some (.int .i64 m) ∧ W.cell? ⟨bf, 0, none⟩ = some (.pointer (some ⟨b, 0, none⟩)) ∧ W.cell? ⟨ba, 0, none⟩ = some (.int .u8 (x : Int)) ∧ FieldAt W b) := by
  intro l J Jx W hSt hJ hJx hY h0
  obtain ⟨s1, s2, s3, s4⟩ := hSt
  have HY := Lib.hid hY
  have HJ := Lib.hid hJ
  have H0 := Lib.hid h0
  have HS4 := Lib.hid s4
  have HM := Lib.hid hm
  clear hY hJ hJx h0 s4 hm
  refine callsIn_of_wp Try.func89 rfl trivial ?_ rfl
  simp only [Try.ntmps89, List.size_toArray, List.length_cons, List.length_nil, Nat.reduceAdd, Nat.reduceSub, Array.replicate_succ, Array.replicate_zero, List.push_toArray, List.append_toArray, List.nil_append, List.cons_append]
  by_cases hm0 : m < 0
  · obtain rfl : N = 0 := by have := HM.out; omega
    gi_wp2
    gi_loopw [9] (fun i wr => i = .int .i64 0 ∧ wr = W) (fun _ _ => 0)
    case atStart => exact ⟨rfl, rfl⟩
    case round =>
      obtain ⟨rfl, rfl⟩ := hrel
      gi_wp2
      go_end0
      exact ⟨⟨_, rfl⟩, .inl H0.out⟩
  · obtain rfl : m = (N : Int) := by have := HM.out; omega
    gi_wp2
    gi_loopw [5, 9] (fun p i wr => ∃ k : Nat, k ≤ N ∧ i = .int .i64 k ∧ p = .int .u8 (gpow x k : Nat) ∧ J k wr ∧ Keep (fun c => c = bn ∨ c = bf ∨ c = ba ∨ c = b) W wr) (fun _ i _ => N - (intOf i).toNat)
    case atStart => exact ⟨0, by omega, rfl, rfl, H0.out, Keep.refl _ _⟩
    case round =>
      obtain ⟨k, hk, rfl, rfl, hJk, hKp⟩ := hrel
      by_cases hlt : k < N
      · have hxs : ((List.range N).map fun i => (i, gpow x i))[k]? = some (k, gpow x k) := by rw [List.getElem?_map, List.getElem?_range hlt]; rfl
        obtain ⟨fn, tmps, assign, body, hy, hR⟩ := HY.out k _ wr hxs hJk
        dsimp only at hy
        have hg := gpow_lt x k
        have KP := Lib.hid hKp
        have HR := Lib.hid hR
        clear hxs hJk hKp hR
        gi_wp2
        refine HR.out.mono ?_
        rintro e W3 (⟨rfl, hJ3, hk3⟩ | ⟨rfl, hJx3⟩)
        · clear hy
          have hK2 := KP.out.trans hk3
          have t2 := hK2.cell (p := ⟨bf, 0, none⟩) (.inr (.inl rfl)) s2
          have t3 := hK2.cell (p := ⟨ba, 0, none⟩) (.inr (.inr (.inl rfl))) s3
          have hF : FieldAt W3 b := (hK2.same b (.inr (.inr (.inr rfl)))).trans HS4.out
          have HF := Lib.hid hF
          have HK2 := Lib.hid hK2
          have HJ3 := Lib.hid hJ3
          clear hK2 hF hk3 hJ3
          gi_wp2_with fail
          refine ⟨trivial, ?_⟩
          refine (callsIn_wide.2 (mul_any b _ _ (gpow x k) x rfl rfl hg lx _ HF.out)).mono ?_
          rintro e w2 ⟨rfl, q, rfl⟩
          gi_wp2
          go_roundw
          case rel => exact ⟨k + 1, by omega, by go_num, rfl, HJ.out _ _ _ HJ3.out (Turn.drewN _ _ _), HK2.out.trans (Keep.drewN _ _ _)⟩
          case measure => simp [intOf]; omega
        · gi_wp2
          refine bodyPost_ret (results_none rfl _ _ _) rfl ?_
          exact ⟨⟨_, rfl⟩, .inr ⟨k, by simpa using hlt, hJx3⟩⟩
      · obtain rfl : k = N := by omega
        gi_wp2
        go_end0
        exact ⟨⟨_, rfl⟩, .inl (by rw [List.length_map, List.length_range]; exact hJk)⟩
end Go.Proofs.Ytkeheickaogpiaa
namespace Go.Proofs.Ytkeheickaogpiaa
open Go.RowKit Go.Shelf
set_option linter.unusedVariables false
attribute [local go_sem] Oper.semAt_some

theorem run_app {B : Nat} {w : World} {v : Value} {xs ys : List UInt8} {A : Option Addr} {c : Nat} (hf : Fr B w v xs) (hr : RdB w A ys) (hA : A = none → c = 0) (hB : B ≤ w.heap.size) (hl : xs.length + ys.length ≤ 1000000) :
    ∃ v' w', (∀ ty, (Builtin.append_ #[56, 56] ty #[v, .slice A ys.length c]).run Try.prog w = .ok v' w') ∧ Fr B w' v' (xs ++ ys) ∧ Below B w w' := by
  obtain ⟨i0, hi, hz0, hz1, hz2⟩ := info_parts infoU8
  cases A with
  | none =>
    obtain rfl : ys = [] := by
      rcases Nat.eq_zero_or_pos ys.length with h | h
      · exact List.length_eq_zero_iff.1 h
      · obtain ⟨b, o, hA, _⟩ := hr 0 h; cases hA
    obtain rfl := hA rfl
    exact ⟨v, w, fun ty => run_append_owned_none (w := w) B 56 ty 5 i0 1 Try.underlying56 hi v xs.length (xs.map vU) hf, by rw [List.append_nil]; exact hf, Below.refl _ _⟩
  | some ad =>
    have h := fun ty => run_append_own (P := Try.prog) w B 56 ty 5 i0 (.int .u8 0) 1 1 Try.underlying56 hi hz0 hz1 hz2 rfl (by decide) v xs.length (xs.map vU) hf ad ys.length c (ys.map vU) (by simp) (fun j u hj => by
      rw [List.getElem?_map] at hj
      cases hy : ys[j]? with
      | none => rw [hy] at hj; cases hj
      | some y =>
        rw [hy] at hj
        obtain rfl := Option.some.inj hj
        obtain ⟨hlt, hye⟩ := List.getElem?_eq_some_iff.1 hy
        obtain ⟨b, o, hAe, _, hc⟩ := hr j hlt
        obtain rfl := Option.some.inj hAe
        have hadd : (⟨b, o, none⟩ : Addr).add j = ⟨b, o + j, none⟩ := by
          unfold Addr.add
          split
          · rename_i h0; subst h0; rfl
          · rfl
        rw [hadd, hc, List.getD_eq_getElem?_getD, hy]
        rfl) (fun u hu => by obtain ⟨y, _, rfl⟩ := List.mem_map.1 hu; rfl) (by unfold maxLen; omega) (by omega) hB
    obtain ⟨v', w', h1, h2, h3, _⟩ := h 0
    refine ⟨v', w', fun ty => h1, ?_, ?_⟩
    · unfold Fr
      rw [List.length_append, List.map_append]
      exact h2
    · have hlt := World.ownsRow.lt hf
      exact ⟨h3.os, h3.tape, h3.output, h3.size, fun b hb => h3.block b (by omega) (fun e => by have := (hlt b e.symm).1; omega)⟩
section
variable {F : Fence} {n : Nat} {P : Program} {ops : Array Oper} {Q : Exit → Act → World → Prop} {a : Act} {W W' : World} {rest : List Oper} {o : Oper}
theorem op_append [FreeF F] (T : TypeId) (s x : Operand) (ho : o.op = .call { callee := .builtin .append, args := #[s, x], argTypes := #[T, T] }) (hw : Region.wanted o (yielded ops a.tmps) = true) (v u v' : Value) (hs : a.eval s = v) (hx : a.eval x = u)
    (hr : ∀ ty, (Builtin.append_ #[T, T] ty #[v, u]).run P W = .ok v' W') (h : wpListIn F n P ops Q rest (a.put o.dst v') W') : wpListIn F n P ops Q (o :: rest) a W :=
  wpListIn_val hw (by unfold noDefer; rw [ho]) v' (by simp [execOp, ho, resolve, invoke, builtin, hs, hx, hr, Result.andThen]) h
end

end Go.Proofs.Ytkeheickaogpiaa
namespace Go.Proofs.Ytkeheickaogpiaa
open Go.RowKit Go.Shelf
set_option linter.unusedVariables false
attribute [local go_sem] Oper.semAt_some

def genL : List UInt8 := rootsL [1, 2, 4, 8]
theorem genL_eq : genL = [64, 120, 54, 15, 1] := by decide +kernel
/-- The code lies at block cb, over the field at fb. -/
def CodeAt (W : World) (cb fb : Nat) : Prop := ∃ A c, Blk W cb 109 #[.pointer (some ⟨fb, 0, none⟩), .slice A 5 c] ∧ FieldAt W fb ∧ RdB W A genL ∧ 5 ≤ c
theorem CodeAt.below {W W' : World} {cb fb : Nat} (h : CodeAt W cb fb) (hb : Below W.heap.size W W') : CodeAt W' cb fb := by
  obtain ⟨A, c, h1, h2, h3, h4⟩ := h
  exact ⟨A, c, h1.below hb h1.lt, (hb.block fb (Array.getElem?_eq_some_iff.1 h2).1).trans h2, h3.below hb, h4⟩

/-- One byte is appended to the last row of the list. -/
theorem app_row {B : Nat} {base W : World} {L0 : Objs} {g : Nat} {xs : List UInt8} {rest : List Value} {y : UInt8} (hO : Own B base (L0 ++ [cellsO g 5 (rowV xs rest)]) W) (hB : B ≤ W.heap.size) (hl : xs.length ≤ 1000) :
    ∃ W' g' rest' E, (∀ ty, (Builtin.append_ #[56, 56] ty #[.slice (some ⟨g, 0, none⟩) xs.length (xs.length + rest.length), .slice (some ⟨W.heap.size, 0, none⟩) 1 1]).run Try.prog (W.alloc (.cells #[vU y] 5)) = .ok (.slice (some ⟨g', 0, none⟩) (xs.length + 1) (xs.length + 1 + rest'.length)) W') ∧
      Own B base (L0 ++ cellsO g' 5 (rowV (xs ++ [y]) rest') :: E) W' ∧ (g' = g ∨ W.heap.size ≤ g') ∧ (∀ e ∈ E, (e.1 = g ∨ W.heap.size ≤ e.1) ∧ e.2.isCells = true) ∧ (g' = g ∨ ∃ e ∈ E, e.1 = g) := by
  have h1 := hO.alloc hB (.cells #[vU y] 5)
  have hk : (L0 ++ [cellsO g 5 (rowV xs rest)] ++ [(W.heap.size, Obj.cells #[vU y] 5)])[L0.length]? = some (cellsO g 5 (rowV xs rest)) := by simp
  have hb := h1.blk hk
  have hr : RdB (W.alloc (.cells #[vU y] 5)) (some ⟨W.heap.size, 0, none⟩) [y] := RdB.row (rest := []) (Blk.new W 5 (rowV [y] []))
  by_cases hlen : ([y] : List UInt8).length ≤ rest.length
  · have hrun := fun ty => run_app_room (xs := xs) (rest := rest) (c := 1) hb hr hlen ty
    have h2 := h1.setRow hk (rowV (xs ++ [y]) (rest.drop 1))
    refine ⟨(W.alloc (.cells #[vU y] 5)).setRow g (rowV (xs ++ [y]) (rest.drop 1)), g, rest.drop 1, [(W.heap.size, Obj.cells #[vU y] 5)], fun ty => (hrun ty).trans ?_, ?_, .inl rfl, ?_, .inl rfl⟩
    · have hlen' : 1 ≤ rest.length := hlen
      have e2 : xs.length + rest.length = xs.length + 1 + (rest.drop 1).length := by rw [List.length_drop]; omega
      rw [← e2]
      rfl
    · have e : (L0 ++ [cellsO g 5 (rowV xs rest)] ++ [(W.heap.size, Obj.cells #[vU y] 5)]).set L0.length (cellsO g 5 (rowV (xs ++ [y]) (rest.drop 1))) = L0 ++ cellsO g 5 (rowV (xs ++ [y]) (rest.drop 1)) :: [(W.heap.size, Obj.cells #[vU y] 5)] := by
        rw [List.append_assoc, List.set_append_right _ _ (Nat.le_refl _), Nat.sub_self]; rfl
      rw [← e]; exact h2
    · intro e he
      obtain rfl := List.mem_singleton.1 he
      exact ⟨.inr (Nat.le_refl _), rfl⟩
  · obtain ⟨rest', hm, hrun⟩ := run_app_grow (xs := xs) (rest := rest) (c := 1) hb hr (by omega) (by simp; omega)
    have h2 := h1.drew.alloc (by simp; omega) (.cells (rowV (xs ++ [y]) rest') 5)
    refine ⟨_, _, rest', [cellsO g 5 (rowV xs rest), (W.heap.size, Obj.cells #[vU y] 5)], hrun, ?_, .inr (by simp), ?_, .inr ⟨cellsO g 5 (rowV xs rest), by simp, rfl⟩⟩
    · refine h2.perm ?_
      rw [List.append_assoc, List.append_assoc]
      refine List.Perm.append_left L0 ?_
      exact List.perm_append_comm (l₁ := [cellsO g 5 (rowV xs rest), (W.heap.size, Obj.cells #[vU y] 5)]) (l₂ := [((W.alloc (.cells #[vU y] 5)).drew.heap.size, Obj.cells (rowV (xs ++ [y]) rest') 5)])
    · intro e he
      simp only [List.mem_cons, List.not_mem_nil, or_false] at he
      rcases he with rfl | rfl
      · exact ⟨.inl rfl, rfl⟩
      · exact ⟨.inr (Nat.le_refl _), rfl⟩
theorem app_none {B : Nat} {base W : World} {L0 : Objs} {y : UInt8} (hO : Own B base L0 W) (hB : B ≤ W.heap.size) :
    ∃ W' g' rest' E, (∀ ty, (Builtin.append_ #[56, 56] ty #[.slice none 0 0, .slice (some ⟨W.heap.size, 0, none⟩) 1 1]).run Try.prog (W.alloc (.cells #[vU y] 5)) = .ok (.slice (some ⟨g', 0, none⟩) 1 (1 + rest'.length)) W') ∧
      Own B base (L0 ++ cellsO g' 5 (rowV [y] rest') :: E) W' ∧ W.heap.size ≤ g' ∧ (∀ e ∈ E, W.heap.size ≤ e.1 ∧ e.2.isCells = true) := by
  have h1 := hO.alloc hB (.cells #[vU y] 5)
  have hr : RdB (W.alloc (.cells #[vU y] 5)) (some ⟨W.heap.size, 0, none⟩) [y] := RdB.row (rest := []) (Blk.new W 5 (rowV [y] []))
  obtain ⟨rest', hm, hrun⟩ := run_app_nil (c := 1) hr (by simp) (by simp)
  have h2 := h1.drew.alloc (by simp; omega) (.cells (rowV [y] rest') 5)
  refine ⟨_, _, rest', [(W.heap.size, Obj.cells #[vU y] 5)], hrun, ?_, by simp, ?_⟩
  · refine h2.perm ?_
    rw [List.append_assoc]
    refine List.Perm.append_left L0 ?_
    exact List.perm_append_comm (l₁ := [(W.heap.size, Obj.cells #[vU y] 5)]) (l₂ := [((W.alloc (.cells #[vU y] 5)).drew.heap.size, Obj.cells (rowV [y] rest') 5)])
  · intro e he
    obtain rfl := List.mem_singleton.1 he
    exact ⟨Nat.le_refl _, rfl⟩

theorem gpow2_pw (i : Nat) : gpow 2 i = (pw 2 i).toNat := by
  induction i with
  | zero => rfl
  | succ i ih => rw [gpow, ih, pw, gm_toNat]; rfl
def pwL (i : Nat) : List UInt8 := (List.range i).map (pw 2)
theorem pwL_len (i : Nat) : (pwL i).length = i := by simp [pwL]
theorem pwL_succ (i : Nat) : pwL i ++ [pw 2 i] = pwL (i + 1) := by unfold pwL; rw [List.range_succ, List.map_append]; rfl
theorem pwL_4 : pwL 4 = [1, 2, 4, 8] := by decide +kernel
theorem naS : ∀ w, (isAgg 56).run Try.prog w = .ok false w := fun _ => by kernel_rfl
theorem szS : (Try.prog.info? 56).map (·.size) = some 1 := by kernel_rfl
theorem alS : ∀ w : World, (Instr.alloc 56 true (.tuple #[])).run Try.prog w = .ok (.pointer (some ⟨w.heap.size, 0, none⟩)) (w.alloc (.cells #[.slice none 0 0] 56)) := fun _ => by kernel_rfl
/-- The variables of rs.New: the roots' slice, and what the powers hold. -/
abbrev nwL (b0 fb : Nat) (v : Value) : Objs := [cellsO b0 56 #[v], cellsO (b0 + 1) 93 #[.pointer (some ⟨fb, 0, none⟩)], cellsO (b0 + 1 + 1) 5 #[.int .u8 2], cellsO (b0 + 1 + 1 + 1) 3 #[.int .i64 4]]
/-- Behind i rounds. -/
def nwRel (b0 fb i : Nat) (Ls : Objs) : Prop := (i = 0 ∧ Ls = nwL b0 fb (.slice none 0 0)) ∨ (1 ≤ i ∧ ∃ g rest, Ls = nwL b0 fb (.slice (some ⟨g, 0, none⟩) i (i + rest.length)) ++ [cellsO g 5 (rowV (pwL i) rest)])
theorem nwNext {b0 fb i : Nat} {W1 W' : World} {Ls E : Objs} {g' : Nat} {rest' : List Value} {v0 v : Value} {K : Nat → Prop} (hv : v = .slice (some ⟨g', 0, none⟩) (i + 1) (i + 1 + rest'.length))
    (hO : Own b0 W1 (nwL b0 fb v ++ cellsO g' 5 (rowV (pwL (i + 1)) rest') :: E) W')
    (h1 : ∀ x ∈ nwL b0 fb v0, x ∈ Ls) (hg : (∃ x ∈ Ls, x.1 = g') ∨ W1.heap.size ≤ g') (hE : ∀ e ∈ E, ((∃ x ∈ Ls, x.1 = e.1) ∨ W1.heap.size ≤ e.1) ∧ e.2.isCells = true)
    (hx : ∀ x ∈ Ls, x ∈ nwL b0 fb v0 ∨ x.1 = g' ∨ ∃ e ∈ E, e.1 = x.1) (hK : ∀ b, K b → b < b0 ∨ b = b0 + 1 ∨ b = b0 + 1 + 1 ∨ b = b0 + 1 + 1 + 1) : OwnNext b0 K W1 Ls (nwRel b0 fb (i + 1)) W' := by
  subst hv
  have hmap : ∀ (u : Value) x, x ∈ nwL b0 fb u → ∃ y ∈ nwL b0 fb v0, y.1 = x.1 := fun u x hx => by
    simp only [nwL, List.mem_cons, List.not_mem_nil, or_false] at hx
    rcases hx with rfl | rfl | rfl | rfl
    · exact ⟨cellsO b0 56 #[v0], by simp, rfl⟩
    · exact ⟨cellsO (b0 + 1) 93 #[.pointer (some ⟨fb, 0, none⟩)], by simp, rfl⟩
    · exact ⟨cellsO (b0 + 1 + 1) 5 #[.int .u8 2], by simp, rfl⟩
    · exact ⟨cellsO (b0 + 1 + 1 + 1) 3 #[.int .i64 4], by simp, rfl⟩
  refine ⟨_, nwL b0 fb (.slice (some ⟨g', 0, none⟩) (i + 1) (i + 1 + rest'.length)) ++ [cellsO g' 5 (rowV (pwL (i + 1)) rest')], hO, ?_, ?_, .inr ⟨by omega, g', rest', rfl⟩, ?_, ?_, ?_, ?_⟩
  · intro y hy
    rcases List.mem_append.1 hy with hy | hy
    · exact List.mem_append_left _ hy
    · obtain rfl := List.mem_singleton.1 hy
      exact List.mem_append_right _ List.mem_cons_self
  · have hn := hO.nd
    rw [show nwL b0 fb (.slice (some ⟨g', 0, none⟩) (i + 1) (i + 1 + rest'.length)) ++ cellsO g' 5 (rowV (pwL (i + 1)) rest') :: E = (nwL b0 fb (.slice (some ⟨g', 0, none⟩) (i + 1) (i + 1 + rest'.length)) ++ [cellsO g' 5 (rowV (pwL (i + 1)) rest')]) ++ E by rw [List.append_assoc]; rfl] at hn
    exact (List.pairwise_append.1 hn).1
  · intro y hy
    rcases List.mem_append.1 hy with hy | hy
    · obtain ⟨x, hx, e⟩ := hmap _ y hy
      exact .inl ⟨x, h1 x hx, e⟩
    · rcases List.mem_cons.1 hy with rfl | hy
      · exact hg
      · exact (hE y hy).1
  · intro x hx2
    rcases hx x hx2 with h | h | ⟨e, he, h⟩
    · simp only [nwL, List.mem_cons, List.not_mem_nil, or_false] at h
      rcases h with rfl | rfl | rfl | rfl
      · exact ⟨_, List.mem_append_left _ (List.mem_cons_self), rfl⟩
      · exact ⟨_, List.mem_append_left _ (List.mem_cons_of_mem _ List.mem_cons_self), rfl⟩
      · exact ⟨_, List.mem_append_left _ (List.mem_cons_of_mem _ (List.mem_cons_of_mem _ List.mem_cons_self)), rfl⟩
      · exact ⟨_, List.mem_append_left _ (List.mem_cons_of_mem _ (List.mem_cons_of_mem _ (List.mem_cons_of_mem _ List.mem_cons_self))), rfl⟩
    · exact ⟨_, List.mem_append_right _ List.mem_cons_self, h.symm⟩
    · exact ⟨e, List.mem_append_right _ (List.mem_cons_of_mem _ he), h⟩
  · intro b hb
    have hin : ∀ x, x ∈ (nwL b0 fb v0).tail → x ∈ Ls ∧ x ∈ nwL b0 fb (.slice (some ⟨g', 0, none⟩) (i + 1) (i + 1 + rest'.length)) ++ cellsO g' 5 (rowV (pwL (i + 1)) rest') :: E := fun x hx => ⟨h1 x (List.mem_of_mem_tail hx), List.mem_append_left _ (List.mem_cons_of_mem _ hx)⟩
    rcases hK b hb with h | rfl | rfl | rfl
    · exact .inl h
    · exact .inr ⟨cellsO (b0 + 1) 93 #[.pointer (some ⟨fb, 0, none⟩)], (hin _ (by simp)).1, (hin _ (by simp)).2, rfl⟩
    · exact .inr ⟨cellsO (b0 + 1 + 1) 5 #[.int .u8 2], (hin _ (by simp)).1, (hin _ (by simp)).2, rfl⟩
    · exact .inr ⟨cellsO (b0 + 1 + 1 + 1) 3 #[.int .i64 4], (hin _ (by simp)).1, (hin _ (by simp)).2, rfl⟩
  · intro y hy
    rcases List.mem_append.1 hy with hy | hy
    · simp only [nwL, List.mem_cons, List.not_mem_nil, or_false] at hy
      rcases hy with rfl | rfl | rfl | rfl <;> exact .inl rfl
    · rcases List.mem_cons.1 hy with rfl | hy
      · exact .inl rfl
      · exact .inl (hE y hy).2

set_option maxRecDepth 100000 in
set_option maxHeartbeats 1000000 in
theorem rsNew_own (fb : Nat) (w : World) (hF : FieldAt w fb) :
    Calls Try.prog 47 #[.pointer (some ⟨fb, 0, none⟩)] w fun e w' => ∃ cb gb rest, e = .returned (.pointer (some ⟨cb, 0, none⟩)) ∧ Own w.heap.size w [(gb, Obj.cells (rowV genL rest) 5 (0, 0)), (cb, Obj.cells #[.pointer (some ⟨fb, 0, none⟩), .slice (some ⟨gb, 0, none⟩) 5 (5 + rest.length)] 109 (0, 0))] w' := by
  have HF := Lib.hid hF
  have HE := Lib.hid (fun W h => exp_any fb 1 1 (by omega) W h)
  rw [show gE 1 = 2 by decide +kernel, show ((2 : Nat) : Int) = 2 from rfl] at HE
  obtain ⟨b0, hb0⟩ : ∃ b0, w.heap.size = b0 := ⟨_, rfl⟩
  have HB0 := Lib.hid hb0
  have HFB := Lib.hid (show fb < b0 by rw [← hb0]; exact (Array.getElem?_eq_some_iff.1 hF).1)
  have OW := Lib.hid (Own.start b0 w)
  have OZ := Lib.hid (And.intro hb0 (Nat.le_refl b0))
  clear hb0 hF
  refine (callsIn_wide (n := 6)).1 ?_
  refine callsIn_of_wp_marks Try.func47 rfl trivial ?_ rfl
  simp only [Try.ntmps47, List.size_toArray, List.length_cons, List.length_nil, Nat.reduceAdd, Nat.reduceSub, Array.replicate_succ, Array.replicate_zero, List.push_toArray, List.append_toArray, List.nil_append, List.cons_append]
  gi_wp2_with (refine own_alloc 56 rfl rfl _ alS OW OZ ?_; clear OW OZ; intro W OW OZ)
  refine ⟨trivial, ?_⟩
  refine (callsIn_wide.2 (HE.out W (OW.out.field HB0.out HF.out))).mono ?_
  rintro e W1 ⟨rfl, qd, hq⟩
  have OW2 := Lib.hid (OW.out.drewN qd)
  have OZ2 := Lib.hid (show W1.heap.size = b0 + 1 ∧ b0 ≤ b0 + 1 by rw [hq]; exact OZ.out)
  rw [← hq] at OW2
  clear OW OZ HE hq
  gi_wp2_with fail
  refine ⟨trivial, ?_⟩
  refine (callsIn_wide.2 (powers_any fb 2 4 W1)).mono ?_
  rintro e U ⟨rfl, hU⟩
  rw [OZ2.out.1]
  have hOU : Own b0 w (nwL b0 fb (.slice none 0 0)) U := by
    have h1 := OW2.out.alloc (by rw [OZ2.out.1]; exact OZ2.out.2) (.cells #[.pointer (some ⟨fb, 0, none⟩)] 93)
    have h2 := h1.alloc (by simp; rw [OZ2.out.1]; omega) (.cells #[.int .u8 2] 5)
    have h3 := h2.alloc (by simp; rw [OZ2.out.1]; omega) (.cells #[.int .i64 4] 3)
    rw [← hU] at h3
    simpa [OZ2.out.1] using h3
  have hZU : U.heap.size = b0 + 4 ∧ b0 ≤ b0 + 4 := ⟨by rw [hU]; simp [OZ2.out.1], by omega⟩
  clear OW2 OZ2 hU
  have OW := Lib.hid hOU
  have OZ := Lib.hid hZU
  clear hOU hZU
  gi_wp2
  refine own_iterB (n := 6) rfl (by omega) (gf := 89) (lb := #[.pointer (some ⟨b0 + 1 + 2, 0, none⟩), .pointer (some ⟨b0 + 1, 0, none⟩), .pointer (some ⟨b0 + 1 + 1, 0, none⟩)]) rfl trivial (enters_of Try.func89 (by kernel_rfl) rfl)
    (Iter.to3 (powers_iter (6 - 1) (by omega) fb (b0 + 1 + 2) (b0 + 1) (b0 + 1 + 1) 2 4 (by omega) (by omega) 4 (by omega)) (fun _ h => h.elim) (fun W h b hb => by
      obtain ⟨s1, s2, s3, s4⟩ := h
      rcases hb with rfl | rfl | rfl | rfl
      · obtain ⟨o, ho, _⟩ := cells_of_cell s1; exact (Array.getElem?_eq_some_iff.1 ho).1
      · obtain ⟨o, ho, _⟩ := cells_of_cell s2; exact (Array.getElem?_eq_some_iff.1 ho).1
      · obtain ⟨o, ho, _⟩ := cells_of_cell s3; exact (Array.getElem?_eq_some_iff.1 ho).1
      · exact (Array.getElem?_eq_some_iff.1 s4).1)) HB0.out
    (fun i Ls => nwRel b0 fb i Ls) (fun _ _ _ => False) (.inl ⟨rfl, rfl⟩) OW OZ ?hSt ?hK (fun _ => rfl) ?act1 ?assign ?body ?done ?stop
  case hSt =>
    intro W' hW'
    have h1 := OW.out.blk (k := 1) rfl
    have h2 := OW.out.blk (k := 2) rfl
    have h3 := OW.out.blk (k := 3) rfl
    have hf := OW.out.field HB0.out HF.out
    refine ⟨?_, ?_, ?_, (hW' fb (Array.getElem?_eq_some_iff.1 hf).1).trans hf⟩
    · rw [World.cell?_of_block (a := ⟨b0 + 1 + 2, 0, none⟩) (hW' _ h3.lt)]; exact h3.cell 0
    · rw [World.cell?_of_block (a := ⟨b0 + 1, 0, none⟩) (hW' _ h1.lt)]; exact h1.cell 0
    · rw [World.cell?_of_block (a := ⟨b0 + 1 + 1, 0, none⟩) (hW' _ h2.lt)]; exact h2.cell 0
  case hK =>
    rintro b (rfl | rfl | rfl | rfl)
    · exact .inr ⟨cellsO (b0 + 1 + 1 + 1) 3 #[.int .i64 4], by simp, rfl⟩
    · exact .inr ⟨cellsO (b0 + 1) 93 #[.pointer (some ⟨fb, 0, none⟩)], by simp, rfl⟩
    · exact .inr ⟨cellsO (b0 + 1 + 1) 5 #[.int .u8 2], by simp, rfl⟩
    · exact .inl HFB.out
  case assign =>
    intro l x W K hK
    gi_wp2
    exact hK
  case body =>
    rintro l i x Ls W1 G1 hx hrel OW1 OW2 OZ1 OM
    have hi : i < 4 := by have := (List.getElem?_eq_some_iff.1 hx).1; simpa using this
    rw [List.getElem?_map, List.getElem?_range hi] at hx
    obtain rfl : (i, gpow 2 i) = x := Option.some.inj hx
    rw [gpow2_pw]
    have HPS := Lib.hid (pwL_succ i)
    have HPL := Lib.hid (pwL_len i)
    have HKK := Lib.hid (show ∀ b, (b = b0 + 1 + 2 ∨ b = b0 + 1 ∨ b = b0 + 1 + 1 ∨ b = fb) → b < b0 ∨ b = b0 + 1 ∨ b = b0 + 1 + 1 ∨ b = b0 + 1 + 1 + 1 by
      rintro b (h | h | h | h)
      · exact .inr (.inr (.inr h))
      · exact .inr (.inl h)
      · exact .inr (.inr (.inl h))
      · exact .inl (by rw [h]; exact HFB.out))
    obtain ⟨y, hy⟩ : ∃ y, pw 2 i = y := ⟨_, rfl⟩
    rw [hy] at HPS ⊢
    rcases hrel with ⟨rfl, rfl⟩ | ⟨h1i, g, rest, rfl⟩
    · obtain ⟨W2, g', rest', E, hrun, hO2, hg', hE⟩ := app_none (y := y) OW2.out (by rw [OZ1.out.1]; exact OZ1.out.2)
      have HRUN := Lib.hid hrun
      have OW3 := Lib.hid hO2
      obtain ⟨G2, OZ3⟩ : ∃ G2, RowKit.Hid (W2.heap.size = G2 ∧ b0 ≤ G2) := ⟨_, And.intro rfl (by have := hO2.size; have := OZ1.out; omega)⟩
      have HE := Lib.hid (And.intro hg' hE)
      clear hrun hO2 hg' hE hx hy OW1
      gi_wp2_with (first
        | (refine own_load 0 56 (.tmp 3) rfl rfl rfl rfl (.slice none 0 0) rfl naS OW2 ?_)
        | (refine op_append 56 (.tmp 12) (.tmp 14) rfl rfl (.slice none 0 0) (.slice (some ⟨W1.heap.size, 0, none⟩) 1 1) (.slice (some ⟨g', 0, none⟩) 1 (1 + rest'.length)) rfl rfl HRUN.out ?_)
        | (refine own_store 0 56 (.tmp 3) (.tmp 15) rfl rfl rfl rfl (.slice (some ⟨g', 0, none⟩) 1 (1 + rest'.length)) rfl #[.slice (some ⟨g', 0, none⟩) 1 (1 + rest'.length)] rfl (Nat.le_of_ble_eq_true rfl) rfl szS _ rfl OW3 OZ3 ?_; clear OW3 OZ3; intro W OW3 OZ3))
      refine nwNext (v0 := .slice none 0 0) (v := .slice (some ⟨g', 0, none⟩) 1 (1 + rest'.length)) (g' := g') (E := E) (rest' := rest') rfl (by rw [← HPS.out]; exact OW3.out) (fun x hx => hx) (.inr HE.out.1) (fun e he => ⟨.inr (HE.out.2 e he).1, (HE.out.2 e he).2⟩) (fun x hx => .inl hx) HKK.out
    · obtain ⟨W2, g', rest', E, hrun, hO2, hg', hE, hgE⟩ := app_row (xs := pwL i) (y := y) OW2.out (by rw [OZ1.out.1]; exact OZ1.out.2) (by rw [pwL_len]; omega)
      rw [HPL.out] at hrun
      have HRUN := Lib.hid hrun
      have OW3 := Lib.hid hO2
      obtain ⟨G2, OZ3⟩ : ∃ G2, RowKit.Hid (W2.heap.size = G2 ∧ b0 ≤ G2) := ⟨_, And.intro rfl (by have := hO2.size; have := OZ1.out; omega)⟩
      have HE := Lib.hid (And.intro hg' (And.intro hE hgE))
      clear hrun hO2 hg' hE hgE hx hy OW1
      gi_wp2_with (first
        | (refine own_load 0 56 (.tmp 3) rfl rfl rfl rfl (.slice (some ⟨g, 0, none⟩) i (i + rest.length)) rfl naS OW2 ?_)
        | (refine op_append 56 (.tmp 12) (.tmp 14) rfl rfl (.slice (some ⟨g, 0, none⟩) i (i + rest.length)) (.slice (some ⟨W1.heap.size, 0, none⟩) 1 1) (.slice (some ⟨g', 0, none⟩) (i + 1) (i + 1 + rest'.length)) rfl rfl HRUN.out ?_)
        | (refine own_store 0 56 (.tmp 3) (.tmp 15) rfl rfl rfl rfl (.slice (some ⟨g', 0, none⟩) (i + 1) (i + 1 + rest'.length)) rfl #[.slice (some ⟨g', 0, none⟩) (i + 1) (i + 1 + rest'.length)] rfl (Nat.le_of_ble_eq_true rfl) rfl szS _ rfl OW3 OZ3 ?_; clear OW3 OZ3; intro W OW3 OZ3))
      have hin : ∃ x ∈ nwL b0 fb (.slice (some ⟨g, 0, none⟩) i (i + rest.length)) ++ [cellsO g 5 (rowV (pwL i) rest)], x.1 = g := ⟨cellsO g 5 (rowV (pwL i) rest), by simp, rfl⟩
      refine nwNext (v0 := .slice (some ⟨g, 0, none⟩) i (i + rest.length)) (v := .slice (some ⟨g', 0, none⟩) (i + 1) (i + 1 + rest'.length)) (g' := g') (E := E) (rest' := rest') rfl (by rw [← HPS.out]; exact OW3.out) (fun x hx => List.mem_append_left _ hx) ?_ (fun e he => ⟨?_, (HE.out.2.1 e he).2⟩) (fun x hx => ?_) HKK.out
      · rcases HE.out.1 with h | h
        · exact .inl (by rw [h]; exact hin)
        · exact .inr h
      · rcases (HE.out.2.1 e he).1 with h | h
        · exact .inl (by rw [h]; exact hin)
        · exact .inr h
      · rcases List.mem_append.1 hx with hx | hx
        · exact .inl hx
        · obtain rfl := List.mem_singleton.1 hx
          rcases HE.out.2.2 with h | h
          · exact .inr (.inl h.symm)
          · exact .inr (.inr h)
  case stop => rintro D c' i Ls W2 G2 hi h; exact h.elim
  case done =>
    rintro D Ls W2 G2 hrel OW1 OZ1
    simp only [List.length_map, List.length_range] at hrel
    obtain ⟨h0, _⟩ | ⟨_, g, rest, rfl⟩ := hrel
    · cases h0
    have hrow : Blk W2 g 5 (rowV (pwL 4) rest) := OW1.out.mem (by simp)
    have HRT := Lib.hid (roots_any fb (some ⟨g, 0, none⟩) 4 (4 + rest.length) [1, 2, 4, 8] rfl (by omega) W2 (OW1.out.field HB0.out HF.out) (by rw [← pwL_4]; exact RdB.row hrow))
    clear hrow OW OZ
    gi_wp2_with (refine own_load 0 56 (.tmp 3) rfl rfl rfl rfl (.slice (some ⟨g, 0, none⟩) 4 (4 + rest.length)) rfl naS OW1 ?_)
    refine ⟨trivial, ?_⟩
    refine (callsIn_wide.2 HRT.out).mono ?_
    rintro e W3 ⟨v, rfl, hv, hb⟩
    obtain ⟨g5, rest5, rfl, hg5, hm5, hblk⟩ := hv.row (by rw [show rootsL [1, 2, 4, 8] = genL from rfl, genL_eq]; simp)
    rw [show rootsL [1, 2, 4, 8] = genL from rfl] at hblk ⊢
    have h5 : genL.length = 5 := by rw [genL_eq]; rfl
    rw [show rootsL [1, 2, 4, 8] = genL from rfl, h5] at hm5
    rw [h5]
    have OW3 := Lib.hid (Own.add OW1.out hb (by rw [OZ1.out.1]; exact OZ1.out.2) hg5 hblk)
    obtain ⟨G3, OZ3⟩ := own_size OW3 HB0
    clear hv hb hblk OW1 OZ1 HRT
    gi_wp2_with (refine own_box 109 (.tmp 20) rfl rfl (.agg #[.pointer (some ⟨fb, 0, none⟩), .slice (some ⟨g5, 0, none⟩) 5 (5 + rest5.length)]) rfl _ rfl OW3 OZ3 ?_; clear OW3 OZ3; intro W OW3 OZ3)
    have OW4 : Own b0 w ([(g5, Obj.cells (rowV genL rest5) 5 (0, 0)), cellsO G3 109 #[.pointer (some ⟨fb, 0, none⟩), .slice (some ⟨g5, 0, none⟩) 5 (5 + rest5.length)]] ++ [D].map markO) W := by
      have h1 := OW3.out.sublist (L' := [markO D, (g5, Obj.cells (rowV genL rest5) 5 (0, 0)), cellsO G3 109 #[.pointer (some ⟨fb, 0, none⟩), .slice (some ⟨g5, 0, none⟩) 5 (5 + rest5.length)]]) (Nat.le_of_eq HB0.out) (by
        rw [List.append_assoc, List.append_assoc]
        exact List.sublist_append_right _ _)
      exact h1.perm (List.perm_append_comm (l₁ := [markO D]))
    refine leaves_own [D] _ (Nat.le_of_eq HB0.out) OW4 ?_
    intro W' hO
    exact ⟨_, by simp [results, Try.results47, go_sem], G3, g5, rest5, rfl, by rw [HB0.out]; exact hO⟩
/-- Out of the three blocks of a code. -/
theorem CodeAt.mk3 {B : Nat} {base W : World} {L : Objs} {cb fb gb k : Nat} {rest : List Value} (h : Own B base L W) (h1 : L[k]? = some (fb, Obj.cells fieldCells 137 (0, 0))) (h2 : L[k + 1]? = some (gb, Obj.cells (rowV genL rest) 5 (0, 0)))
    (h3 : L[k + 2]? = some (cb, Obj.cells #[.pointer (some ⟨fb, 0, none⟩), .slice (some ⟨gb, 0, none⟩) 5 (5 + rest.length)] 109 (0, 0))) : CodeAt W cb fb :=
  ⟨_, _, h.blk h3, h.get h1, RdB.row (h.blk h2), Nat.le_add_right _ _⟩
/-- What a call has made, beside the caller's own. -/
theorem Own.join {B : Nat} {base W W' : World} {L L2 : Objs} (h : Own B base L W) (hB : B ≤ W.heap.size) (k : Own W.heap.size W L2 W') : Own B base (L ++ L2) W' := by
  have h2 := h.step (k.below (Nat.le_refl _))
  refine ⟨?_, ?_, ?_, h2.os, h2.tape, h2.output, h2.size, fun b h1 hn => h2.far b h1 fun x hx => hn x (List.mem_append_left _ hx)⟩
  · intro x hx
    rcases List.mem_append.1 hx with hx | hx
    · exact h2.obj x hx
    · exact k.obj x hx
  · refine List.pairwise_append.2 ⟨h2.nd, k.nd, fun x hx y hy => ?_⟩
    have h3 := h.lt hx
    have h4 := k.lo y hy
    omega
  · intro x hx
    rcases List.mem_append.1 hx with hx | hx
    · exact h2.lo x hx
    · exact Nat.le_trans hB (k.lo x hx)
end Go.Proofs.Ytkeheickaogpiaa
