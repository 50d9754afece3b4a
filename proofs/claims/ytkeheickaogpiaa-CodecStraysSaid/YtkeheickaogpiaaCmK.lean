/- rs: code words, their sums, replaced symbols: plain mathematics. -/
import Derived.Test.YtkeheickaogpiaaCmC
namespace Go.Proofs.Ytkeheickaogpiaa
open Go
set_option linter.unusedVariables false

theorem coLk {x y : List UInt8} {i : Nat} (h : i < x.length) : co (x ++ y) i = x.getD i 0 := by
  unfold co
  rw [List.getD_eq_getElem?_getD, List.getD_eq_getElem?_getD, List.getElem?_append_left h]
theorem coRk {x y : List UInt8} {n i : Nat} (h : x.length = n) : co (x ++ y) (n + i) = y.getD i 0 := by
  unfold co
  rw [List.getD_eq_getElem?_getD, List.getD_eq_getElem?_getD, List.getElem?_append_right (by omega), ← h, Nat.add_sub_cancel_left]
/-- A word of data and checks. -/
def wordL (d v : List UInt8) : List UInt8 := chkL d v ++ d
theorem wordL_len (d v : List UInt8) (hd : d.length = 32) : (wordL d v).length = 36 := by unfold wordL; rw [List.length_append, chkL_len, hd]
theorem nodup_le {l m : List Nat} (hn : l.Nodup) (h : ∀ x ∈ l, x ∈ m) : l.length ≤ m.length := by
  induction l generalizing m with
  | nil => exact Nat.zero_le _
  | cons a l ih =>
    obtain ⟨h1, h2⟩ := List.nodup_cons.1 hn
    have ha := h a (List.mem_cons_self ..)
    have := ih h2 (m := m.erase a) fun x hx => (List.mem_erase_of_ne (fun (e : x = a) => h1 (by rw [← e]; exact hx))).2 (h x (List.mem_cons_of_mem _ hx))
    rw [List.length_erase_of_mem ha] at this
    have := List.length_pos_of_mem ha
    rw [List.length_cons]
    omega
theorem supp_mem {e : Nat → UInt8} {n i : Nat} : i ∈ supp e n ↔ i < n ∧ e i ≠ 0 := by
  unfold supp
  rw [List.mem_filter, List.mem_range, bne_iff_ne]
theorem supp_nodup (e : Nat → UInt8) (n : Nat) : (supp e n).Nodup := List.Pairwise.filter _ List.nodup_range
theorem supp_le {e : Nat → UInt8} {n : Nat} {l : List Nat} (h : ∀ i, i < n → e i ≠ 0 → i ∈ l) : (supp e n).length ≤ l.length :=
  nodup_le (supp_nodup e n) fun x hx => by obtain ⟨h1, h2⟩ := supp_mem.1 hx; exact h x h1 h2
theorem supp_ge {e : Nat → UInt8} {n : Nat} {l : List Nat} (hl : l.Nodup) (h : ∀ i ∈ l, i < n ∧ e i ≠ 0) : l.length ≤ (supp e n).length :=
  nodup_le hl fun x hx => supp_mem.2 (h x hx)
theorem xs_one {n k : Nat} {f : Nat → UInt8} (hk : k < n) (h : ∀ i, i < n → i ≠ k → f i = 0) : xs n f = f k := by
  induction n with
  | zero => omega
  | succ n ih =>
    rw [xs_succ]
    by_cases e : k = n
    · subst e
      rw [xs_zero fun i hi => h i (by omega) (by omega), UInt8.zero_xor]
    · rw [ih (by omega) fun i hi hne => h i (by omega) hne, h n (by omega) (by omega), UInt8.xor_zero]

/-- A word's value at the root number j. -/
def Sy (f : Nat → UInt8) (j : Nat) : UInt8 := xs 39 fun i => gm (f i) (pw (pw 2 j) i)
theorem Sy_congr {f g : Nat → UInt8} (h : ∀ i, i < 39 → f i = g i) (j : Nat) : Sy f j = Sy g j := xs_congr fun i hi => by rw [h i hi]
theorem Sy_xor (f g : Nat → UInt8) (j : Nat) : Sy (fun i => f i ^^^ g i) j = Sy f j ^^^ Sy g j := by
  unfold Sy
  rw [← xs_xor]
  exact xs_congr fun i _ => xor_gm _ _ _
theorem Sy_gm (f : Nat → UInt8) (a : UInt8) (j : Nat) : Sy (fun i => gm (f i) a) j = gm (Sy f j) a := by
  unfold Sy
  rw [← xs_mg]
  exact xs_congr fun i _ => by rw [gm_assoc, gm_assoc, gm_comm a]
/-- One symbol alone. -/
def one (k : Nat) (a : UInt8) (i : Nat) : UInt8 := if i = k then a else 0
theorem Sy_one {k : Nat} (hk : k < 39) (a : UInt8) (j : Nat) : Sy (one k a) j = gm a (pw (pw 2 j) k) := by
  unfold Sy
  rw [xs_one hk fun i _ hne => by rw [show one k a i = 0 from if_neg hne, zero_gm], show one k a k = a from if_pos rfl]
theorem synF_Sy {w v : List UInt8} (h : (w ++ v).length = 39) (j : Nat) : synF w v j = Sy (co (w ++ v)) j := by
  unfold synF evalL
  rw [h]
  rfl
theorem co_synL (w v : List UInt8) {j : Nat} (hj : j < 4) : co (synL w v) j = synF w v j := by unfold synL; rw [co_ofF, if_pos hj]
theorem pw_one_left (n : Nat) : pw 1 n = 1 := by
  induction n with
  | zero => rfl
  | succ n ih => rw [pw, ih, gm_one]
theorem pw2_0 (k : Nat) : pw (pw 2 0) k = 1 := pw_one_left k
theorem pw2_step (j k : Nat) : pw (pw 2 (j + 1)) k = gm (pw (pw 2 j) k) (pw 2 k) := by rw [pw_swap, pw, pw_swap]
theorem hit_one {s : Nat → UInt8} {a : UInt8} {k : Nat} (ha : a ≠ 0) (h : ∀ j, j < 4 → s j = gm a (pw (pw 2 j) k)) : hit s k = true := by
  rw [hit_iff, h 0 (by omega), h 1 (by omega), h 2 (by omega), h 3 (by omega), pw2_0, gm_one]
  refine ⟨ha, ?_, ?_, ?_⟩
  · rw [pw2_step 0, pw2_0, one_gm]
  · rw [pw2_step 1, gm_assoc]
  · rw [pw2_step 2, gm_assoc]
theorem one_hit {s : Nat → UInt8} {k : Nat} (h : hit s k = true) (j : Nat) (hj : j < 4) : s j = gm (s 0) (pw (pw 2 j) k) := by
  obtain ⟨_, h1, h2, h3⟩ := (hit_iff s k).1 h
  have e0 : s 0 = gm (s 0) (pw (pw 2 0) k) := by rw [pw2_0, gm_one]
  have e1 : s 1 = gm (s 0) (pw (pw 2 1) k) := by rw [pw2_step 0, pw2_0, one_gm]; exact h1
  have e2 : s 2 = gm (s 0) (pw (pw 2 2) k) := by rw [pw2_step 1, ← gm_assoc, ← e1]; exact h2
  have e3 : s 3 = gm (s 0) (pw (pw 2 3) k) := by rw [pw2_step 2, ← gm_assoc, ← e2]; exact h3
  match j, hj with
  | 0, _ => exact e0
  | 1, _ => exact e1
  | 2, _ => exact e2
  | 3, _ => exact e3
theorem mds39 {f : Nat → UInt8} (hw : (supp f 39).length ≤ 4) (h : ∀ j, j < 4 → Sy f j = 0) : ∀ i, i < 39 → f i = 0 := mds (by omega) hw h
/-- One replaced symbol. -/
theorem loc_one {s : Nat → UInt8} {a : UInt8} {k : Nat} (hk : k < 39) (h : ∀ j, j < 4 → s j = gm a (pw (pw 2 j) k)) :
    locF s = if a = 0 then ⟨0, -1, 0⟩ else if 35 < k then ⟨2, k, a⟩ else ⟨1, k, a⟩ := by
  by_cases ha : a = 0
  · rw [if_pos ha]
    have h0 : ∀ j, j < 4 → s j = 0 := fun j hj => by rw [h j hj, ha, zero_gm]
    exact locF_nul ⟨h0 0 (by omega), h0 1 (by omega), h0 2 (by omega), h0 3 (by omega)⟩
  · rw [if_neg ha]
    have h0 : s 0 = a := by rw [h 0 (by omega), pw2_0, gm_one]
    by_cases hk2 : 35 < k
    · rw [if_pos hk2, locF_hi hk2 hk (hit_one ha h), h0]
    · rw [if_neg hk2, locF_lo (by omega) (hit_one ha h), h0]
/-- Two or three replaced symbols. -/
theorem loc_lost {f : Nat → UInt8} (h2 : 2 ≤ (supp f 39).length) (h3 : (supp f 39).length ≤ 3) : locF (Sy f) = ⟨3, -1, 0⟩ := by
  apply locF_lost
  · rintro ⟨e0, e1, e2, e3⟩
    have hz := mds39 (f := f) (by omega) fun j hj => by
      match j, hj with
      | 0, _ => exact e0
      | 1, _ => exact e1
      | 2, _ => exact e2
      | 3, _ => exact e3
    have : (supp f 39).length ≤ ([] : List Nat).length := supp_le fun i hi hne => absurd (hz i hi) hne
    simp at this
    rw [this] at h2
    simp at h2
  · intro i hi
    apply Bool.eq_false_iff.2
    intro hh
    have hs := one_hit hh
    have hz := mds39 (f := fun t => f t ^^^ one i (Sy f 0) t) (by
      refine Nat.le_trans (supp_le (l := i :: supp f 39) fun t ht hne => ?_) (by rw [List.length_cons]; omega)
      by_cases e : t = i
      · rw [e]; exact List.mem_cons_self ..
      · refine List.mem_cons_of_mem _ (supp_mem.2 ⟨ht, fun e0 => hne ?_⟩)
        show f t ^^^ one i (Sy f 0) t = 0
        rw [e0, show one i (Sy f 0) t = 0 from if_neg e, UInt8.xor_zero]) fun j hj => by
      rw [Sy_xor, Sy_one hi, ← hs j hj, UInt8.xor_self]
    have : (supp f 39).length ≤ [i].length := supp_le fun t ht hne => by
      by_cases e : t = i
      · rw [e]; exact List.mem_cons_self ..
      · have h := hz t ht
        rw [show one i (Sy f 0) t = 0 from if_neg e, UInt8.xor_zero] at h
        exact absurd h hne
    simp at this
    omega

/-- A code word: 0 at the roots. -/
def isC (f : Nat → UInt8) : Prop := ∀ j, j < 4 → Sy f j = 0
theorem isC.congr {f g : Nat → UInt8} (hf : isC f) (h : ∀ i, i < 39 → f i = g i) : isC g := fun j hj => by rw [← Sy_congr h]; exact hf j hj
theorem isC.xor {f g : Nat → UInt8} (hf : isC f) (hg : isC g) : isC fun i => f i ^^^ g i := fun j hj => by rw [Sy_xor, hf j hj, hg j hj]; rfl
theorem isC.gm {f : Nat → UInt8} (hf : isC f) (a : UInt8) : isC fun i => gm (f i) a := fun j hj => by rw [Sy_gm, hf j hj, zero_gm]
theorem isC.eq {f g : Nat → UInt8} (hf : isC f) (hg : isC g) (h : ∀ i, 4 ≤ i → i < 39 → f i = g i) (i : Nat) (hi : i < 39) : f i = g i := by
  have hz := mds39 (f := fun i => f i ^^^ g i) (supp_le (l := [0, 1, 2, 3]) fun t ht hne => by
    by_cases e : 4 ≤ t
    · exact absurd (by rw [h t e ht, UInt8.xor_self]) hne
    · have : t = 0 ∨ t = 1 ∨ t = 2 ∨ t = 3 := by omega
      simpa using this) (hf.xor hg) i hi
  exact UInt8.xor_eq_zero_iff.1 hz
theorem word_co (d v : List UInt8) (hd : d.length = 32) (i : Nat) : co (wordL d v ++ v) i = co (msgL d v) i ^^^ co (modG d v) i := by
  have hm := modG_le d v
  unfold wordL msgL
  rw [List.append_assoc, List.append_assoc]
  by_cases h : i < 4
  · rw [coLk (by rw [chkL_len]; omega), coLk (by simpa using h)]
    have e1 : (List.replicate 4 (0 : UInt8)).getD i 0 = 0 := by rw [List.getD_eq_getElem?_getD, List.getElem?_replicate, if_pos h]; rfl
    rw [e1, UInt8.zero_xor]
    show co (chkL d v) i = _
    unfold chkL
    rw [co_ofF, if_pos h]
  · obtain ⟨t, rfl⟩ : ∃ t, i = 4 + t := ⟨i - 4, by omega⟩
    rw [coRk (chkL_len d v), coRk (List.length_replicate), co_ge (p := modG d v) (by omega), UInt8.xor_zero]
theorem genL_root (j : Nat) (hj : j < 4) : evalL genL (pw 2 j) = 0 := by
  rw [genL_eq]
  revert j
  decide +kernel
theorem wordv_len (d v : List UInt8) (hd : d.length = 32) (hv : v.length = 3) : (wordL d v ++ v).length = 39 := by rw [List.length_append, wordL_len d v hd, hv]
theorem word_isC (d v : List UInt8) (hd : d.length = 32) (hv : v.length = 3) : isC (co (wordL d v ++ v)) := by
  intro j hj
  have e : Sy (co (wordL d v ++ v)) j = evalL (wordL d v ++ v) (pw 2 j) := by
    unfold evalL
    rw [wordv_len d v hd hv]
    rfl
  rw [e, evalL_congr (q := addL (msgL d v) (modG d v)) _ fun i => by rw [co_addL]; exact word_co d v hd i, evalL_addL]
  have := modL_eval (p := msgL d v) (q := genL) (t := gi (co genL (tlL genL - 1))) (by rw [genL_tl]; omega) (gm_gi (tlL_top genL (t := tlL genL - 1) (by rw [genL_tl]))) (genL_root j hj)
  rw [show evalL (modG d v) (pw 2 j) = evalL (msgL d v) (pw 2 j) from this, UInt8.xor_self]
/-- The document's values. -/
def valsL (u : List UInt8) : List UInt8 := [evalL u 1, evalL u 2, evalL u 4, evalL u 8]
theorem valsL_syn (w v : List UInt8) : valsL (w ++ v) = synL w v := by
  unfold valsL synL synF
  rw [show ofF 4 (fun j => evalL (w ++ v) (pw 2 j)) = [evalL (w ++ v) (pw 2 0), evalL (w ++ v) (pw 2 1), evalL (w ++ v) (pw 2 2), evalL (w ++ v) (pw 2 3)] from rfl]
  rw [show pw 2 0 = 1 from rfl, show pw 2 1 = 2 by decide +kernel, show pw 2 2 = 4 by decide +kernel, show pw 2 3 = 8 by decide +kernel]
theorem syn_word (d v : List UInt8) (hd : d.length = 32) (hv : v.length = 3) : synL (wordL d v) v = List.replicate 4 0 := by
  have h := word_isC d v hd hv
  refine list_ext (by rw [synL_len]; rfl) fun i hi => ?_
  rw [synL_len] at hi
  rw [co_synL _ _ hi, synF_Sy (wordv_len d v hd hv), h i hi]
  unfold co
  rw [List.getD_eq_getElem?_getD, List.getElem?_replicate, if_pos hi]
  rfl
/-- What was told of a code word with symbols added. -/
theorem loc_add (d v w u : List UInt8) (e : Nat → UInt8) (hd : d.length = 32) (hv : v.length = 3) (hl : (w ++ u).length = 39) (h : ∀ i, i < 39 → co (w ++ u) i = co (wordL d v ++ v) i ^^^ e i) : locF (co (synL w u)) = locF (Sy e) := by
  refine locF_congr fun j hj => ?_
  rw [co_synL _ _ hj, synF_Sy hl, Sy_congr h, Sy_xor, word_isC d v hd hv j hj, UInt8.zero_xor]
end Go.Proofs.Ytkeheickaogpiaa
