/- The reference's checks are the program's. Plain mathematics. -/
import Derived.Test.YtkeheickaogpiaaCdO
import Derived.Test.YtkeheickaogpiaaCmY
namespace Go.Proofs.Ytkeheickaogpiaa
open Go Go.RowKit Go.Shelf

theorem gT_gen : gT 4 = genL := by rw [genL_eq]; decide +kernel
theorem co_setO {w : List UInt8} {k i : Nat} (b : UInt8) (hk : k < w.length) : co (w.set k b) i = if i = k then b else co w i := by
  unfold co
  rw [List.getD_eq_getElem?_getD, List.getD_eq_getElem?_getD, List.getElem?_set]
  by_cases e : k = i
  · subst e; rw [if_pos rfl, if_pos hk, if_pos rfl]; rfl
  · rw [if_neg e, if_neg fun h => e h.symm]
theorem wE_co {w : List UInt8} (hw : w.length = 39) {i : Nat} (h4 : 4 ≤ i) (hi : i < 39) (t : Nat) : t ≤ 5 → ∀ s, co (wE w i t) s = co w s ^^^ (if i - 4 ≤ s ∧ s < i - 4 + t then gm (w.getD i 0) ((gT 4).getD (s - (i - 4)) 0) else 0) := by
  induction t with
  | zero => intro _ s; rw [wE, if_neg (by omega), UInt8.xor_zero]
  | succ t ih =>
    intro ht s
    rw [wE, co_setO _ (by rw [wE_len, hw]; omega)]
    by_cases e : s = i - 4 + t
    · subst e
      have h0 := ih (by omega) (i - 4 + t)
      rw [if_neg (by omega), UInt8.xor_zero] at h0
      rw [if_pos rfl, if_pos (by omega)]
      show co (wE w i t) (i - 4 + t) ^^^ _ = _
      rw [h0, Nat.add_sub_cancel_left]
    · rw [if_neg e, ih (by omega) s]
      by_cases h : i - 4 ≤ s ∧ s < i - 4 + t
      · rw [if_pos h, if_pos (by omega)]
      · rw [if_neg h, if_neg (by omega)]
/-- Five ones, one behind the other. -/
def five (m : Nat) (b : UInt8) (s : Nat) : UInt8 := (((one m (gm b 64) s ^^^ one (m + 1) (gm b 120) s) ^^^ one (m + 2) (gm b 54) s) ^^^ one (m + 3) (gm b 15) s) ^^^ one (m + 4) (gm b 1) s
theorem gen_root (j : Nat) (hj : j < 4) : (((gm 64 (pw (pw 2 j) 0) ^^^ gm 120 (pw (pw 2 j) 1)) ^^^ gm 54 (pw (pw 2 j) 2)) ^^^ gm 15 (pw (pw 2 j) 3)) ^^^ gm 1 (pw (pw 2 j) 4) = 0 := by
  revert j; decide +kernel
theorem five_root {m : Nat} (hm : m + 4 < 39) (b : UInt8) {j : Nat} (hj : j < 4) : Sy (five m b) j = 0 := by
  have h := gen_root j hj
  have g : ∀ t c, t ≤ 4 → Sy (one (m + t) (gm b c)) j = gm (gm b (pw (pw 2 j) m)) (gm c (pw (pw 2 j) t)) := by
    intro t c ht
    rw [Sy_one (by omega), pw_add]
    generalize pw (pw 2 j) m = P
    generalize pw (pw 2 j) t = Q
    rw [gm_assoc, gm_assoc, ← gm_assoc c P Q, gm_comm c P, gm_assoc P c Q]
  unfold five
  rw [Sy_xor, Sy_xor, Sy_xor, Sy_xor]
  have g0 := g 0 64 (by omega)
  rw [Nat.add_zero] at g0
  rw [g0, g 1 120 (by omega), g 2 54 (by omega), g 3 15 (by omega), g 4 1 (by omega), ← gm_xor, ← gm_xor, ← gm_xor, ← gm_xor, h, gm_zero]
theorem five_at {m : Nat} (b : UInt8) (s : Nat) : (if m ≤ s ∧ s < m + 5 then gm b ((gT 4).getD (s - m) 0) else 0) = five m b s := by
  rw [gT_gen, genL_eq]
  unfold five one
  by_cases h : m ≤ s ∧ s < m + 5
  · rw [if_pos h]
    rcases (show s = m ∨ s = m + 1 ∨ s = m + 2 ∨ s = m + 3 ∨ s = m + 4 by omega) with rfl | rfl | rfl | rfl | rfl
    · rw [Nat.sub_self, if_pos rfl, if_neg (by omega), if_neg (by omega), if_neg (by omega), if_neg (by omega), UInt8.xor_zero, UInt8.xor_zero, UInt8.xor_zero, UInt8.xor_zero]; rfl
    · rw [Nat.add_sub_cancel_left, if_neg (by omega), if_pos rfl, if_neg (by omega), if_neg (by omega), if_neg (by omega), UInt8.xor_zero, UInt8.xor_zero, UInt8.xor_zero, UInt8.zero_xor]; rfl
    · rw [Nat.add_sub_cancel_left, if_neg (by omega), if_neg (by omega), if_pos rfl, if_neg (by omega), if_neg (by omega), UInt8.xor_zero, UInt8.xor_zero, UInt8.xor_zero, UInt8.zero_xor]; rfl
    · rw [Nat.add_sub_cancel_left, if_neg (by omega), if_neg (by omega), if_neg (by omega), if_pos rfl, if_neg (by omega), UInt8.xor_zero, UInt8.xor_zero, UInt8.xor_zero, UInt8.zero_xor]; rfl
    · rw [Nat.add_sub_cancel_left, if_neg (by omega), if_neg (by omega), if_neg (by omega), if_neg (by omega), if_pos rfl, UInt8.xor_zero, UInt8.xor_zero, UInt8.xor_zero, UInt8.zero_xor]; rfl
  · rw [if_neg h, if_neg (by omega), if_neg (by omega), if_neg (by omega), if_neg (by omega), if_neg (by omega)]; rfl
theorem wE_five {w : List UInt8} (hw : w.length = 39) {i : Nat} (h4 : 4 ≤ i) (hi : i < 39) (s : Nat) : co (wE w i 5) s = co w s ^^^ five (i - 4) (w.getD i 0) s := by
  rw [wE_co hw h4 hi 5 (Nat.le_refl 5) s, five_at]
theorem wD_syn {w : List UInt8} (hw : w.length = 39) {j : Nat} (hj : j < 4) (n : Nat) : n ≤ 35 → Sy (co (wD w n)) j = Sy (co w) j ∧ ∀ s, 38 - n < s → s < 39 → co (wD w n) s = 0 := by
  induction n with
  | zero => intro _; exact ⟨rfl, fun s h1 h2 => by omega⟩
  | succ n ih =>
    intro hn
    obtain ⟨h1, h2⟩ := ih (by omega)
    have hl : (wD w n).length = 39 := by rw [wD_len, hw]
    have hf := wE_five hl (i := 38 - n) (by omega) (by omega)
    rw [wD]
    refine ⟨?_, fun s hs1 hs2 => ?_⟩
    · rw [Sy_congr (g := fun s => co (wD w n) s ^^^ five (38 - n - 4) ((wD w n).getD (38 - n) 0) s) fun s _ => hf s, Sy_xor, five_root (by omega) _ hj, UInt8.xor_zero, h1]
    · rw [hf s]
      by_cases e : s = 38 - n
      · subst e
        unfold five one
        rw [if_neg (by omega), if_neg (by omega), if_neg (by omega), if_neg (by omega), if_pos (by omega), gm_one]
        show co (wD w n) (38 - n) ^^^ ((((0 : UInt8) ^^^ 0) ^^^ 0) ^^^ 0 ^^^ co (wD w n) (38 - n)) = 0
        rw [UInt8.xor_self, UInt8.xor_self, UInt8.xor_self, UInt8.zero_xor, UInt8.xor_self]
      · rw [h2 s (by omega) hs2]
        unfold five one
        rw [if_neg (by omega), if_neg (by omega), if_neg (by omega), if_neg (by omega), if_neg (by omega)]
        rfl
theorem rchk_chk {d v : List UInt8} (hd : d.length = 32) (hv : v.length = 3) : rchk (List.replicate 4 0 ++ d ++ v) = chkL d v := by
  have hw : (List.replicate 4 (0 : UInt8) ++ d ++ v).length = 39 := by rw [List.length_append, List.length_append, hd, hv]; rfl
  have hwd : ∀ i, co (wordL d v ++ v) i = co (List.replicate 4 (0 : UInt8) ++ d ++ v) i ^^^ co (modG d v) i := fun i => word_co d v hd i
  have hz : ∀ i, i < 39 → co (wD (List.replicate 4 (0 : UInt8) ++ d ++ v) 35) i ^^^ co (modG d v) i = 0 := by
    refine mds39 (f := fun i => co (wD (List.replicate 4 (0 : UInt8) ++ d ++ v) 35) i ^^^ co (modG d v) i) (supp_le (l := [0, 1, 2, 3]) fun t ht hne => ?_) fun j hj => ?_
    · by_cases h : 4 ≤ t
      · exact absurd (by rw [(wD_syn hw (j := 0) (by decide) 35 (Nat.le_refl 35)).2 t (by omega) ht, co_ge (by have := modG_le d v; omega)]; rfl) hne
      · have : t = 0 ∨ t = 1 ∨ t = 2 ∨ t = 3 := by omega
        simpa using this
    · rw [Sy_xor, (wD_syn hw hj 35 (Nat.le_refl 35)).1, ← Sy_xor, ← Sy_congr fun i _ => hwd i]
      exact word_isC d v hd hv j hj
  refine list_ext (by rw [chkL_len]; rfl) fun i hi => ?_
  have hi4 : i < 4 := hi
  have h1 := UInt8.xor_eq_zero_iff.1 (hz i (by omega))
  unfold chkL
  rw [co_ofF, if_pos hi4, ← h1]
  unfold rchk
  generalize wD (List.replicate 4 0 ++ d ++ v) 35 = W
  rcases (show i = 0 ∨ i = 1 ∨ i = 2 ∨ i = 3 by omega) with rfl | rfl | rfl | rfl <;> rfl
end Go.Proofs.Ytkeheickaogpiaa
