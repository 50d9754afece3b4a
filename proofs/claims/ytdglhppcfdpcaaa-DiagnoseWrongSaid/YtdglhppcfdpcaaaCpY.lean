/- Several texts in one: CpK CpL CpM. -/
import Derived.Test.YtdglhppcfdpcaaaCpX
import Derived.Test.YtdglhppcfdpcaaaRsQ
set_option linter.unusedVariables false
set_option linter.unusedSimpArgs false
namespace Go.Proofs.Ytdglhppcfdpcaaa
open Go Go.RowKit Go.Shelf

set_option linter.unusedVariables false

theorem coLk {x y : List UInt8} {i : Nat} (h : i < x.length) : co (x ++ y) i = x.getD i 0 := by
  unfold co
  rw [List.getD_eq_getElem?_getD, List.getD_eq_getElem?_getD, List.getElem?_append_left h]
theorem coRk {x y : List UInt8} {n i : Nat} (h : x.length = n) : co (x ++ y) (n + i) = y.getD i 0 := by
  unfold co
  rw [List.getD_eq_getElem?_getD, List.getD_eq_getElem?_getD, List.getElem?_append_right (by omega), ← h, Nat.add_sub_cancel_left]
/-- A word of data and checks. -/
def wordL (d v : List UInt8) : List UInt8 := chkL d v ++ d
theorem wordL_len (d v : List UInt8) (hd : d.length = 32) : (wordL d v).length = 36 := by unfold wordL; rw [List.length_append, chkL_len, hd]
theorem supp_mem {e : Nat → UInt8} {n i : Nat} : i ∈ supp e n ↔ i < n ∧ e i ≠ 0 := by
  unfold supp
  rw [List.mem_filter, List.mem_range, bne_iff_ne]
theorem xs_one {n k : Nat} {f : Nat → UInt8} (hk : k < n) (h : ∀ i, i < n → i ≠ k → f i = 0) : xs n f = f k := by
  induction n with
  | zero => omega
  | succ n ih =>
    rw [xs_succ]
    by_cases e : k = n
    · subst e
      rw [xs_zero fun i hi => h i (by omega) (by omega), UInt8.zero_xor]
    · rw [ih (by omega) fun i hi hne => h i (by omega) hne, h n (by omega) (by omega), UInt8.xor_zero]

/-- A word's value at the root number j. -/
def Sy (f : Nat → UInt8) (j : Nat) : UInt8 := xs 39 fun i => gm (f i) (pw (pw 2 j) i)
theorem Sy_congr {f g : Nat → UInt8} (h : ∀ i, i < 39 → f i = g i) (j : Nat) : Sy f j = Sy g j := xs_congr fun i hi => by rw [h i hi]
theorem Sy_xor (f g : Nat → UInt8) (j : Nat) : Sy (fun i => f i ^^^ g i) j = Sy f j ^^^ Sy g j := by
  unfold Sy
  rw [← xs_xor]
  exact xs_congr fun i _ => xor_gm _ _ _
theorem Sy_gm (f : Nat → UInt8) (a : UInt8) (j : Nat) : Sy (fun i => gm (f i) a) j = gm (Sy f j) a := by
  unfold Sy
  rw [← xs_mg]
  exact xs_congr fun i _ => by rw [gm_assoc, gm_assoc, gm_comm a]
/-- One symbol alone. -/
def one (k : Nat) (a : UInt8) (i : Nat) : UInt8 := if i = k then a else 0
theorem Sy_one {k : Nat} (hk : k < 39) (a : UInt8) (j : Nat) : Sy (one k a) j = gm a (pw (pw 2 j) k) := by
  unfold Sy
  rw [xs_one hk fun i _ hne => by rw [show one k a i = 0 from if_neg hne, zero_gm], show one k a k = a from if_pos rfl]
theorem synF_Sy {w v : List UInt8} (h : (w ++ v).length = 39) (j : Nat) : synF w v j = Sy (co (w ++ v)) j := by
  unfold synF evalL
  rw [h]
  rfl
theorem co_synL (w v : List UInt8) {j : Nat} (hj : j < 4) : co (synL w v) j = synF w v j := by unfold synL; rw [co_ofF, if_pos hj]
theorem pw_one_left (n : Nat) : pw 1 n = 1 := by
  induction n with
  | zero => rfl
  | succ n ih => rw [pw, ih, gm_one]
theorem pw2_0 (k : Nat) : pw (pw 2 0) k = 1 := pw_one_left k
theorem pw2_step (j k : Nat) : pw (pw 2 (j + 1)) k = gm (pw (pw 2 j) k) (pw 2 k) := by rw [pw_swap, pw, pw_swap]
theorem hit_one {s : Nat → UInt8} {a : UInt8} {k : Nat} (ha : a ≠ 0) (h : ∀ j, j < 4 → s j = gm a (pw (pw 2 j) k)) : hit s k = true := by
  rw [hit_iff, h 0 (by omega), h 1 (by omega), h 2 (by omega), h 3 (by omega), pw2_0, gm_one]
  refine ⟨ha, ?_, ?_, ?_⟩
  · rw [pw2_step 0, pw2_0, one_gm]
  · rw [pw2_step 1, gm_assoc]
  · rw [pw2_step 2, gm_assoc]
/-- One replaced symbol. -/
theorem loc_one {s : Nat → UInt8} {a : UInt8} {k : Nat} (hk : k < 39) (h : ∀ j, j < 4 → s j = gm a (pw (pw 2 j) k)) :
    locF s = if a = 0 then ⟨0, -1, 0⟩ else if 35 < k then ⟨2, k, a⟩ else ⟨1, k, a⟩ := by
  by_cases ha : a = 0
  · rw [if_pos ha]
    have h0 : ∀ j, j < 4 → s j = 0 := fun j hj => by rw [h j hj, ha, zero_gm]
    exact locF_nul ⟨h0 0 (by omega), h0 1 (by omega), h0 2 (by omega), h0 3 (by omega)⟩
  · rw [if_neg ha]
    have h0 : s 0 = a := by rw [h 0 (by omega), pw2_0, gm_one]
    by_cases hk2 : 35 < k
    · rw [if_pos hk2, locF_hi hk2 hk (hit_one ha h), h0]
    · rw [if_neg hk2, locF_lo (by omega) (hit_one ha h), h0]
/-- A code word: 0 at the roots. -/
def isC (f : Nat → UInt8) : Prop := ∀ j, j < 4 → Sy f j = 0
theorem isC.congr {f g : Nat → UInt8} (hf : isC f) (h : ∀ i, i < 39 → f i = g i) : isC g := fun j hj => by rw [← Sy_congr h]; exact hf j hj
theorem isC.xor {f g : Nat → UInt8} (hf : isC f) (hg : isC g) : isC fun i => f i ^^^ g i := fun j hj => by rw [Sy_xor, hf j hj, hg j hj]; rfl
theorem isC.gm {f : Nat → UInt8} (hf : isC f) (a : UInt8) : isC fun i => gm (f i) a := fun j hj => by rw [Sy_gm, hf j hj, zero_gm]
theorem word_co (d v : List UInt8) (hd : d.length = 32) (i : Nat) : co (wordL d v ++ v) i = co (msgL d v) i ^^^ co (modG d v) i := by
  have hm := modG_le d v
  unfold wordL msgL
  rw [List.append_assoc, List.append_assoc]
  by_cases h : i < 4
  · rw [coLk (by rw [chkL_len]; omega), coLk (by simpa using h)]
    have e1 : (List.replicate 4 (0 : UInt8)).getD i 0 = 0 := by rw [List.getD_eq_getElem?_getD, List.getElem?_replicate, if_pos h]; rfl
    rw [e1, UInt8.zero_xor]
    show co (chkL d v) i = _
    unfold chkL
    rw [co_ofF, if_pos h]
  · obtain ⟨t, rfl⟩ : ∃ t, i = 4 + t := ⟨i - 4, by omega⟩
    rw [coRk (chkL_len d v), coRk (List.length_replicate), co_ge (p := modG d v) (by omega), UInt8.xor_zero]
theorem genL_root (j : Nat) (hj : j < 4) : evalL genL (pw 2 j) = 0 := by
  rw [genL_eq]
  revert j
  decide +kernel
theorem wordv_len (d v : List UInt8) (hd : d.length = 32) (hv : v.length = 3) : (wordL d v ++ v).length = 39 := by rw [List.length_append, wordL_len d v hd, hv]
theorem word_isC (d v : List UInt8) (hd : d.length = 32) (hv : v.length = 3) : isC (co (wordL d v ++ v)) := by
  intro j hj
  have e : Sy (co (wordL d v ++ v)) j = evalL (wordL d v ++ v) (pw 2 j) := by
    unfold evalL
    rw [wordv_len d v hd hv]
    rfl
  rw [e, evalL_congr (q := addL (msgL d v) (modG d v)) _ fun i => by rw [co_addL]; exact word_co d v hd i, evalL_addL]
  have := modL_eval (p := msgL d v) (q := genL) (t := gi (co genL (tlL genL - 1))) (by rw [genL_tl]; omega) (gm_gi (tlL_top genL (t := tlL genL - 1) (by rw [genL_tl]))) (genL_root j hj)
  rw [show evalL (modG d v) (pw 2 j) = evalL (msgL d v) (pw 2 j) from this, UInt8.xor_self]
/-- What was told of a code word with symbols added. -/
theorem loc_add (d v w u : List UInt8) (e : Nat → UInt8) (hd : d.length = 32) (hv : v.length = 3) (hl : (w ++ u).length = 39) (h : ∀ i, i < 39 → co (w ++ u) i = co (wordL d v ++ v) i ^^^ e i) : locF (co (synL w u)) = locF (Sy e) := by
  refine locF_congr fun j hj => ?_
  rw [co_synL _ _ hj, synF_Sy hl, Sy_congr h, Sy_xor, word_isC d v hd hv j hj, UInt8.zero_xor]

end Go.Proofs.Ytdglhppcfdpcaaa
set_option linter.unusedVariables false
set_option linter.unusedSimpArgs false
namespace Go.Proofs.Ytdglhppcfdpcaaa.E
open Go Go.RowKit Go.Shelf


def hfL (l : List UInt8) (k : Nat) : List UInt8 := (l.drop (32 * k)).take 32
theorem hfL_len {l : List UInt8} (hl : l.length = 64) {k : Nat} (hk : k < 2) : (hfL l k).length = 32 := by unfold hfL; rw [List.length_take, List.length_drop]; omega
theorem eW2_word {l : List UInt8} {x : Int} {p : Bool} {k : Nat} (hk : k < 2) : eW2 l x p k = wordL (hfL l k) (xvirt_0 x p) := eW2_lt hk
theorem own2_len {l : List UInt8} (hl : l.length = 64) (x : Int) (p : Bool) : (encT 36 (eW2 l x p) 2).length = 72 := encT_len (n := 36) (eW2_len hl x p) (k := 2) (by decide)
/-- What was added to a word's symbols, the virtual ones behind. -/
def eC (l : List UInt8) (x : Int) (p : Bool) (r : List UInt8) (y : Int) (q : Bool) (k : Nat) (i : Nat) : UInt8 := Go.Proofs.Ytdglhppcfdpcaaa.co (w36 r k ++ xvirt_0 y q) i ^^^ Go.Proofs.Ytdglhppcfdpcaaa.co (wordL (hfL l k) (xvirt_0 x p) ++ xvirt_0 x p) i
theorem supp_len (e : Nat → UInt8) (n : Nat) : (supp e n).length = sumN (fun i => if e i = 0 then 0 else 1) n := by
  induction n with
  | zero => rfl
  | succ n ih =>
    rw [supp_succ, List.length_append, ih, sumN]
    by_cases h : e n = 0
    · rw [if_pos h, h]; rfl
    · rw [if_neg h, if_pos (bne_iff_ne.2 h)]; rfl
theorem xor_eq0 {a b : UInt8} : a ^^^ b = 0 ↔ b = a := UInt8.xor_eq_zero_iff.trans eq_comm
theorem wC_supp {l : List UInt8} (hl : l.length = 64) (x : Int) (p : Bool) {r : List UInt8} (hr : r.length = 72) (y : Int) (q : Bool) {k : Nat} (hk : k < 2) : wC 2 (encT 36 (eW2 l x p) 2) r k = (supp (eC l x p r y q k) 36).length := by
  rw [supp_len]
  have h1 : wC 2 (encT 36 (eW2 l x p) 2) r k = sumN (fun j => cst 2 ((encT 36 (eW2 l x p) 2).getD (36 * k + j) 0) (r.getD (36 * k + j) 0)) 36 := rfl
  rw [h1]
  refine sumN_congr 36 fun j hj => ?_
  have hw := w36_len hr hk
  unfold eC cst
  rw [if_neg (by decide), coLk (by omega), coLk (by rw [wordL_len _ _ (hfL_len hl hk)]; exact hj), encT_get (eW2_len hl x p) hk hj, w36_get hj, eW2_word hk]
  by_cases h : (wordL (hfL l k) (xvirt_0 x p)).getD j 0 = r.getD (36 * k + j) 0
  · rw [if_pos h, if_pos (xor_eq0.2 h)]
  · rw [if_neg h, if_neg fun h2 => h (xor_eq0.1 h2)]
theorem eC_virt {l : List UInt8} (hl : l.length = 64) (x : Int) (p : Bool) {r : List UInt8} (hr : r.length = 72) (y : Int) (q : Bool) {k : Nat} (hk : k < 2) (t : Nat) : eC l x p r y q k (36 + t) = (xvirt_0 y q).getD t 0 ^^^ (xvirt_0 x p).getD t 0 := by
  unfold eC
  rw [coRk (w36_len hr hk), coRk (wordL_len _ _ (hfL_len hl hk))]
theorem supp39 (e : Nat → UInt8) : (supp e 39).length = (supp e 36).length + (if e 36 = 0 then 0 else 1) + (if e 37 = 0 then 0 else 1) + (if e 38 = 0 then 0 else 1) := by
  rw [supp_len, supp_len]; rfl

/-! A word's verdict. -/
theorem loc_e {l : List UInt8} (hl : l.length = 64) (x : Int) (p : Bool) {r : List UInt8} (hr : r.length = 72) (y : Int) (q : Bool) {k : Nat} (hk : k < 2) : locF (Go.Proofs.Ytdglhppcfdpcaaa.co (synL (w36 r k) (xvirt_0 y q))) = locF (Sy (eC l x p r y q k)) := by
  refine loc_add (hfL l k) (xvirt_0 x p) _ _ _ (hfL_len hl hk) (xvirt_len x p) (by rw [List.length_append, w36_len hr hk, xvirt_len]) fun i hi => ?_
  unfold eC
  rw [UInt8.xor_comm (Go.Proofs.Ytdglhppcfdpcaaa.co (w36 r k ++ xvirt_0 y q) i), ← UInt8.xor_assoc, UInt8.xor_self, UInt8.zero_xor]
theorem loc_none {e : Nat → UInt8} (h : (supp e 39).length = 0) : locF (Sy e) = ⟨0, -1, 0⟩ := by
  have h1 : ∀ i, i < 39 → e i = 0 := fun i hi => Classical.byContradiction fun hn => by
    have := List.eq_nil_of_length_eq_zero h
    have h2 := supp_mem.2 ⟨hi, hn⟩
    rw [this] at h2
    exact absurd h2 List.not_mem_nil
  have h2 : ∀ j, Sy e j = 0 := fun j => xs_zero fun i hi => by rw [h1 i hi, zero_gm]
  exact locF_nul ⟨h2 0, h2 1, h2 2, h2 3⟩
theorem supp_one {e : Nat → UInt8} {n : Nat} (h : (supp e n).length = 1) : ∃ k, k < n ∧ e k ≠ 0 ∧ ∀ i, i < n → i ≠ k → e i = 0 := by
  obtain ⟨k, hk⟩ := List.length_eq_one_iff.1 h
  obtain ⟨h1, h2⟩ := supp_mem.1 (show k ∈ supp e n by rw [hk]; exact List.mem_singleton.2 rfl)
  refine ⟨k, h1, h2, fun i hi hne => Classical.byContradiction fun hn => hne ?_⟩
  have h3 := supp_mem.2 ⟨hi, hn⟩
  rw [hk] at h3
  exact List.mem_singleton.1 h3
theorem loc_sole {e : Nat → UInt8} {k : Nat} (hk : k < 39) (h : e k ≠ 0) (ho : ∀ i, i < 39 → i ≠ k → e i = 0) : locF (Sy e) = if 35 < k then ⟨2, k, e k⟩ else ⟨1, k, e k⟩ := by
  have h1 := loc_one (s := Sy e) (a := e k) hk fun j _ => by
    rw [← Sy_one hk]
    refine Sy_congr (fun i hi => ?_) j
    unfold one
    by_cases he : i = k
    · rw [if_pos he, he]
    · rw [if_neg he, ho i hi he]
  rw [h1, if_neg h]
theorem cK_of {r : List UInt8} {y : Int} {k kd : Nat} {pl : Int} {a : UInt8} (h : locF (Go.Proofs.Ytdglhppcfdpcaaa.co (synL (w36 r k) (xvirt_0 y false))) = ⟨kd, pl, a⟩) : cK r y k = if kd = 0 then 0 else if kd = 1 then 1 else if kd = 2 ∧ pl = 38 ∧ a = 128 then 2 else 3 := by
  unfold cK xchips_0 xchipsA_0 rsLk rsLp rsLv
  rw [h]
  show (bif ((kd : Nat) : Int) == 0 then 0 else (bif ((kd : Nat) : Int) == 1 then 1 else (bif ((((kd : Nat) : Int) == 2) && (pl == 38)) && ((a.toNat : Int) == 128) then 2 else 3))) = (_ : Int)
  by_cases h0 : kd = 0
  · subst h0; rfl
  by_cases h1 : kd = 1
  · subst h1; rfl
  rw [if_neg h0, if_neg h1]
  have c0 : (((kd : Nat) : Int) == 0) = false := by rw [beq_eq_false_iff_ne]; omega
  have c1 : (((kd : Nat) : Int) == 1) = false := by rw [beq_eq_false_iff_ne]; omega
  rw [c0, c1, cond_false, cond_false]
  by_cases h2 : kd = 2 ∧ pl = 38 ∧ a = 128
  · obtain ⟨rfl, rfl, rfl⟩ := h2; rfl
  · rw [if_neg h2]
    have c2 : ((((kd : Nat) : Int) == 2) && (pl == 38) && ((a.toNat : Int) == 128)) = false := by
      apply Bool.eq_false_iff.2
      intro hc
      rw [Bool.and_eq_true, Bool.and_eq_true, beq_iff_eq, beq_iff_eq, beq_iff_eq] at hc
      exact h2 ⟨by omega, hc.1.2, UInt8.toNat_inj.1 (by show a.toNat = 128; omega)⟩
    rw [c2, cond_false]
theorem decL_kept {d v : List UInt8} {kd : Nat} {pl : Int} {a : UInt8} (h : locF (Go.Proofs.Ytdglhppcfdpcaaa.co (synL d v)) = ⟨kd, pl, a⟩) (hk : kd ≠ 1) : decL d v = d.drop 4 := by
  unfold decL
  rw [h]
  have c1 : (((kd : Nat) : Int) == 1) = false := by rw [beq_eq_false_iff_ne]; omega
  show (bif ((kd : Nat) : Int) == 1 then _ else _) = _
  rw [c1, cond_false]
theorem decL_mend {d v : List UInt8} {t : Nat} {a : UInt8} (h : locF (Go.Proofs.Ytdglhppcfdpcaaa.co (synL d v)) = ⟨1, (t : Int), a⟩) : decL d v = (d.set t (d.getD t 0 ^^^ a)).drop 4 := by
  unfold decL
  rw [h]
  rfl
theorem word2_drop (d v : List UInt8) : (wordL d v).drop 4 = d := by unfold wordL; exact List.drop_left' (chkL_len d v)
theorem word2_zero {l : List UInt8} (hl : l.length = 64) {x : Int} {r : List UInt8} (hr : r.length = 72) {k : Nat} (hk : k < 2) (h : wC 2 (encT 36 (eW2 l x false) 2) r k = 0) : cK r x k = 0 ∧ cW r x k = hfL l k := by
  have h36 := wC_supp hl x false hr x false hk
  have hv := eC_virt hl x false hr x false hk
  have h39 := supp39 (eC l x false r x false k)
  rw [show (36 : Nat) = 36 + 0 from rfl, show (37 : Nat) = 36 + 1 from rfl, show (38 : Nat) = 36 + 2 from rfl, hv 0, hv 1, hv 2, UInt8.xor_self, UInt8.xor_self, UInt8.xor_self, if_pos rfl, ← h36, h] at h39
  have hloc := (loc_e hl x false hr x false hk).trans (loc_none h39)
  refine ⟨by rw [cK_of hloc]; rfl, ?_⟩
  unfold cW
  rw [decL_kept hloc (by decide)]
  have he : ∀ i, i < 36 → (w36 r k).getD i 0 = (wordL (hfL l k) (xvirt_0 x false)).getD i 0 := by
    intro i hi
    have h0 : (supp (eC l x false r x false k) 36).length = 0 := by rw [← h36, h]
    rw [supp_len] at h0
    have h1 := (sumN_zero 36).1 h0 i hi
    unfold eC at h1
    rw [coLk (by rw [w36_len hr hk]; exact hi), coLk (by rw [wordL_len _ _ (hfL_len hl hk)]; exact hi)] at h1
    by_cases e : (w36 r k).getD i 0 ^^^ (wordL (hfL l k) (xvirt_0 x false)).getD i 0 = 0
    · exact (xor_eq0.1 e).symm
    · rw [if_neg e] at h1; omega
  have hw : w36 r k = wordL (hfL l k) (xvirt_0 x false) := list_ext (by rw [w36_len hr hk, wordL_len _ _ (hfL_len hl hk)]) fun i hi => he i (by rw [w36_len hr hk] at hi; exact hi)
  rw [hw, word2_drop]
theorem word2_one {l : List UInt8} (hl : l.length = 64) {x : Int} {r : List UInt8} (hr : r.length = 72) {k : Nat} (hk : k < 2) (h : wC 2 (encT 36 (eW2 l x false) 2) r k = 1) : cK r x k = 1 ∧ cW r x k = hfL l k := by
  have h36 := wC_supp hl x false hr x false hk
  have hv := eC_virt hl x false hr x false hk
  have h39 := supp39 (eC l x false r x false k)
  rw [show (36 : Nat) = 36 + 0 from rfl, show (37 : Nat) = 36 + 1 from rfl, show (38 : Nat) = 36 + 2 from rfl, hv 0, hv 1, hv 2, UInt8.xor_self, UInt8.xor_self, UInt8.xor_self, if_pos rfl, ← h36, h] at h39
  obtain ⟨t, ht, e0, e1⟩ := supp_one h39
  have ht36 : t < 36 := Classical.byContradiction fun hn => e0 (by
    have e := hv (t - 36)
    rw [show 36 + (t - 36) = t by omega, UInt8.xor_self] at e
    exact e)
  have hloc := (loc_e hl x false hr x false hk).trans (loc_sole ht e0 e1)
  rw [if_neg (by omega)] at hloc
  refine ⟨by rw [cK_of hloc]; rfl, ?_⟩
  unfold cW
  rw [decL_mend hloc]
  have hwl := w36_len hr hk
  have hol := wordL_len (hfL l k) (xvirt_0 x false) (hfL_len hl hk)
  have hw : (w36 r k).set t ((w36 r k).getD t 0 ^^^ eC l x false r x false k t) = wordL (hfL l k) (xvirt_0 x false) := by
    refine list_ext (by rw [List.length_set, hwl, hol]) fun i hi => ?_
    rw [List.length_set, hwl] at hi
    have hei : eC l x false r x false k i = (w36 r k).getD i 0 ^^^ (wordL (hfL l k) (xvirt_0 x false)).getD i 0 := by
      unfold eC
      rw [coLk (by omega), coLk (by omega)]
    unfold Go.Proofs.Ytdglhppcfdpcaaa.co
    rw [List.getD_eq_getElem?_getD, List.getElem?_set]
    by_cases e : t = i
    · subst e
      rw [if_pos rfl, if_pos (by omega), Option.getD_some, hei, ← UInt8.xor_assoc, UInt8.xor_self, UInt8.zero_xor]
    · rw [if_neg e, ← List.getD_eq_getElem?_getD]
      have h2 := e1 i (by omega) (fun e2 => e e2.symm)
      rw [hei] at h2
      exact (xor_eq0.1 h2).symm
  rw [hw, word2_drop]
end Go.Proofs.Ytdglhppcfdpcaaa.E
set_option linter.unusedVariables false
set_option linter.unusedSimpArgs false
namespace Go.Proofs.Ytdglhppcfdpcaaa.E
open Go Go.RowKit Go.Shelf


theorem halves_line {l : List UInt8} (hl : l.length = 64) {f : Nat → List UInt8} (h : ∀ k, k < 2 → f k = hfL l k) : halfT (hvT f 2) 2 = l := by
  have e : hvT f 2 = l := by
    show (f 0 ++ (f 1 ++ [])) ++ [] = l
    rw [List.append_nil, List.append_nil, h 0 (by decide), h 1 (by decide)]
    unfold hfL
    rw [show 32 * 0 = 0 from rfl, show 32 * 1 = 32 from rfl, List.drop_zero, List.take_of_length_le (l := l.drop 32) (by rw [List.length_drop]; omega), List.take_append_drop]
  rw [e, halfT_two hl]
theorem wC2_hit {l : List UInt8} (hl : l.length = 64) {x : Int} {p : Bool} {r : List UInt8} (hr : r.length = 72) {m : Nat} (h : expo 2 (encT 36 (eW2 l x p) 2) r = m + 1) : ∃ k, k < 2 ∧ wC 2 (encT 36 (eW2 l x p) 2) r k = m + 1 := by
  have h1 : ¬ expo 2 (encT 36 (eW2 l x p) 2) r ≤ m := by omega
  rw [expo_le_iff (own2_len hl x p) hr] at h1
  simp only [Classical.not_forall] at h1
  obtain ⟨k, hk, h2⟩ := h1
  have h3 := wC_le_expo (mode := 2) (own2_len hl x p) hr hk
  exact ⟨k, hk, by omega⟩
theorem wC2_le {l : List UInt8} (hl : l.length = 64) (x : Int) (p : Bool) {r : List UInt8} (hr : r.length = 72) {k : Nat} (hk : k < 2) : wC 2 (encT 36 (eW2 l x p) 2) r k ≤ expo 2 (encT 36 (eW2 l x p) 2) r := wC_le_expo (mode := 2) (own2_len hl x p) hr hk
theorem right2 {l : List UInt8} (hl : l.length = 64) {x : Int} {r : List UInt8} (hr : r.length = 72) (h : expo 2 (encT 36 (eW2 l x false) 2) r ≤ 1) :
    xDec2_0 r x = l ∧ jK ((List.range 2).map (cK r x)) = (expo 2 (encT 36 (eW2 l x false) 2) r : Int) ∧ (decide (0 < xjoin_0 ((List.range 2).map (cK r x))) = ((expo 2 (encT 36 (eW2 l x false) 2) r : Int) == 1)) := by
  have hw : ∀ k, k < 2 → cK r x k = (wC 2 (encT 36 (eW2 l x false) 2) r k : Int) ∧ cW r x k = hfL l k := by
    intro k hk
    have h1 := wC2_le hl x false hr hk
    rcases (show wC 2 (encT 36 (eW2 l x false) 2) r k = 0 ∨ wC 2 (encT 36 (eW2 l x false) 2) r k = 1 by omega) with h0 | h0
    · rw [h0]; exact word2_zero hl hr hk h0
    · rw [h0]; exact word2_one hl hr hk h0
  have hj := join_right (f := cK r x) (c := fun k => wC 2 (encT 36 (eW2 l x false) 2) r k) (n := 2) (e := expo 2 (encT 36 (eW2 l x false) 2) r) (fun k hk => (hw k hk).1) (fun k hk => wC2_le hl x false hr hk) h fun h1 => wC2_hit hl hr h1
  refine ⟨?_, hj⟩
  unfold xDec2_0
  rw [hj.1, decide_eq_false (by omega), cond_false]
  exact (halfT_two (hvT_len (cWx_len hr x) (Nat.le_refl 2))).symm.trans (halves_line hl fun k hk => by rw [cWx_lt hk]; exact (hw k hk).2)
end Go.Proofs.Ytdglhppcfdpcaaa.E
