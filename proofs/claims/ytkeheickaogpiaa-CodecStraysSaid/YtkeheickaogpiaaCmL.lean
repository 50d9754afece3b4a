/- The code of chips: words and lines. Plain mathematics. -/
import Derived.Test.YtkeheickaogpiaaCmK
namespace Go.Proofs.Ytkeheickaogpiaa
open Go Go.RowKit Go.Shelf

def hfL (l : List UInt8) (k : Nat) : List UInt8 := (l.drop (32 * k)).take 32
theorem hfL_len {l : List UInt8} (hl : l.length = 64) {k : Nat} (hk : k < 2) : (hfL l k).length = 32 := by unfold hfL; rw [List.length_take, List.length_drop]; omega
theorem eW2_word {l : List UInt8} {x : Int} {p : Bool} {k : Nat} (hk : k < 2) : eW2 l x p k = wordL (hfL l k) (dvirt_0 x p) := eW2_lt hk
theorem own2_len {l : List UInt8} (hl : l.length = 64) (x : Int) (p : Bool) : (encT 36 (eW2 l x p) 2).length = 72 := encT_len (n := 36) (eW2_len hl x p) (k := 2) (by decide)
theorem own2_w {l : List UInt8} (hl : l.length = 64) (x : Int) (p : Bool) {k : Nat} (hk : k < 2) : w36 (encT 36 (eW2 l x p) 2) k = wordL (hfL l k) (dvirt_0 x p) := by rw [w36_enc (eW2_len hl x p) hk, eW2_word hk]
/-- What was added to a word's symbols, the virtual ones behind. -/
def eC (l : List UInt8) (x : Int) (p : Bool) (r : List UInt8) (y : Int) (q : Bool) (k : Nat) (i : Nat) : UInt8 := co (w36 r k ++ dvirt_0 y q) i ^^^ co (wordL (hfL l k) (dvirt_0 x p) ++ dvirt_0 x p) i
theorem supp_len (e : Nat → UInt8) (n : Nat) : (supp e n).length = sumN (fun i => if e i = 0 then 0 else 1) n := by
  induction n with
  | zero => rfl
  | succ n ih =>
    rw [supp_succ, List.length_append, ih, sumN]
    by_cases h : e n = 0
    · rw [if_pos h, h]; rfl
    · rw [if_neg h, if_pos (bne_iff_ne.2 h)]; rfl
theorem xor_eq0 {a b : UInt8} : a ^^^ b = 0 ↔ b = a := UInt8.xor_eq_zero_iff.trans eq_comm
theorem wC_supp {l : List UInt8} (hl : l.length = 64) (x : Int) (p : Bool) {r : List UInt8} (hr : r.length = 72) (y : Int) (q : Bool) {k : Nat} (hk : k < 2) : wC 2 (encT 36 (eW2 l x p) 2) r k = (supp (eC l x p r y q k) 36).length := by
  rw [supp_len]
  have h1 : wC 2 (encT 36 (eW2 l x p) 2) r k = sumN (fun j => cst 2 ((encT 36 (eW2 l x p) 2).getD (36 * k + j) 0) (r.getD (36 * k + j) 0)) 36 := rfl
  rw [h1]
  refine sumN_congr 36 fun j hj => ?_
  have hw := w36_len hr hk
  unfold eC cst
  rw [if_neg (by decide), coLk (by omega), coLk (by rw [wordL_len _ _ (hfL_len hl hk)]; exact hj), encT_get (eW2_len hl x p) hk hj, w36_get hj, eW2_word hk]
  by_cases h : (wordL (hfL l k) (dvirt_0 x p)).getD j 0 = r.getD (36 * k + j) 0
  · rw [if_pos h, if_pos (xor_eq0.2 h)]
  · rw [if_neg h, if_neg fun h2 => h (xor_eq0.1 h2)]
theorem eC_virt {l : List UInt8} (hl : l.length = 64) (x : Int) (p : Bool) {r : List UInt8} (hr : r.length = 72) (y : Int) (q : Bool) {k : Nat} (hk : k < 2) (t : Nat) : eC l x p r y q k (36 + t) = (dvirt_0 y q).getD t 0 ^^^ (dvirt_0 x p).getD t 0 := by
  unfold eC
  rw [coRk (w36_len hr hk), coRk (wordL_len _ _ (hfL_len hl hk))]
theorem supp39 (e : Nat → UInt8) : (supp e 39).length = (supp e 36).length + (if e 36 = 0 then 0 else 1) + (if e 37 = 0 then 0 else 1) + (if e 38 = 0 then 0 else 1) := by
  rw [supp_len, supp_len]; rfl

/-! A word's verdict. -/
theorem loc_e {l : List UInt8} (hl : l.length = 64) (x : Int) (p : Bool) {r : List UInt8} (hr : r.length = 72) (y : Int) (q : Bool) {k : Nat} (hk : k < 2) : locF (co (synL (w36 r k) (dvirt_0 y q))) = locF (Sy (eC l x p r y q k)) := by
  refine loc_add (hfL l k) (dvirt_0 x p) _ _ _ (hfL_len hl hk) (dvirt_len x p) (by rw [List.length_append, w36_len hr hk, dvirt_len]) fun i hi => ?_
  unfold eC
  rw [UInt8.xor_comm (co (w36 r k ++ dvirt_0 y q) i), ← UInt8.xor_assoc, UInt8.xor_self, UInt8.zero_xor]
theorem loc_none {e : Nat → UInt8} (h : (supp e 39).length = 0) : locF (Sy e) = ⟨0, -1, 0⟩ := by
  have h1 : ∀ i, i < 39 → e i = 0 := fun i hi => Classical.byContradiction fun hn => by
    have := List.eq_nil_of_length_eq_zero h
    have h2 := supp_mem.2 ⟨hi, hn⟩
    rw [this] at h2
    exact absurd h2 List.not_mem_nil
  have h2 : ∀ j, Sy e j = 0 := fun j => xs_zero fun i hi => by rw [h1 i hi, zero_gm]
  exact locF_nul ⟨h2 0, h2 1, h2 2, h2 3⟩
theorem supp_one {e : Nat → UInt8} {n : Nat} (h : (supp e n).length = 1) : ∃ k, k < n ∧ e k ≠ 0 ∧ ∀ i, i < n → i ≠ k → e i = 0 := by
  obtain ⟨k, hk⟩ := List.length_eq_one_iff.1 h
  obtain ⟨h1, h2⟩ := supp_mem.1 (show k ∈ supp e n by rw [hk]; exact List.mem_singleton.2 rfl)
  refine ⟨k, h1, h2, fun i hi hne => Classical.byContradiction fun hn => hne ?_⟩
  have h3 := supp_mem.2 ⟨hi, hn⟩
  rw [hk] at h3
  exact List.mem_singleton.1 h3
theorem loc_sole {e : Nat → UInt8} {k : Nat} (hk : k < 39) (h : e k ≠ 0) (ho : ∀ i, i < 39 → i ≠ k → e i = 0) : locF (Sy e) = if 35 < k then ⟨2, k, e k⟩ else ⟨1, k, e k⟩ := by
  have h1 := loc_one (s := Sy e) (a := e k) hk fun j _ => by
    rw [← Sy_one hk]
    refine Sy_congr (fun i hi => ?_) j
    unfold one
    by_cases he : i = k
    · rw [if_pos he, he]
    · rw [if_neg he, ho i hi he]
  rw [h1, if_neg h]
theorem cK_of {r : List UInt8} {y : Int} {k kd : Nat} {pl : Int} {a : UInt8} (h : locF (co (synL (w36 r k) (dvirt_0 y false))) = ⟨kd, pl, a⟩) : cK r y k = if kd = 0 then 0 else if kd = 1 then 1 else if kd = 2 ∧ pl = 38 ∧ a = 128 then 2 else 3 := by
  unfold cK dchips_0 rsK rsP rsA
  rw [h]
  show (bif ((kd : Nat) : Int) == 0 then 0 else (bif ((kd : Nat) : Int) == 1 then 1 else (bif ((((kd : Nat) : Int) == 2) && (pl == 38)) && ((a.toNat : Int) == 128) then 2 else 3))) = (_ : Int)
  by_cases h0 : kd = 0
  · subst h0; rfl
  by_cases h1 : kd = 1
  · subst h1; rfl
  rw [if_neg h0, if_neg h1]
  have c0 : (((kd : Nat) : Int) == 0) = false := by rw [beq_eq_false_iff_ne]; omega
  have c1 : (((kd : Nat) : Int) == 1) = false := by rw [beq_eq_false_iff_ne]; omega
  rw [c0, c1, cond_false, cond_false]
  by_cases h2 : kd = 2 ∧ pl = 38 ∧ a = 128
  · obtain ⟨rfl, rfl, rfl⟩ := h2; rfl
  · rw [if_neg h2]
    have c2 : ((((kd : Nat) : Int) == 2) && (pl == 38) && ((a.toNat : Int) == 128)) = false := by
      apply Bool.eq_false_iff.2
      intro hc
      rw [Bool.and_eq_true, Bool.and_eq_true, beq_iff_eq, beq_iff_eq, beq_iff_eq] at hc
      exact h2 ⟨by omega, hc.1.2, UInt8.toNat_inj.1 (by show a.toNat = 128; omega)⟩
    rw [c2, cond_false]
theorem cK_le (r : List UInt8) (y : Int) (k : Nat) : cK r y k ≤ 3 := by
  obtain ⟨⟨kd, pl, a⟩, h⟩ : ∃ V, locF (co (synL (w36 r k) (dvirt_0 y false))) = V := ⟨_, rfl⟩
  rw [cK_of h]
  split
  · decide
  · split
    · decide
    · split <;> decide
theorem decL_kept {d v : List UInt8} {kd : Nat} {pl : Int} {a : UInt8} (h : locF (co (synL d v)) = ⟨kd, pl, a⟩) (hk : kd ≠ 1) : decL d v = d.drop 4 := by
  unfold decL
  rw [h]
  have c1 : (((kd : Nat) : Int) == 1) = false := by rw [beq_eq_false_iff_ne]; omega
  show (bif ((kd : Nat) : Int) == 1 then _ else _) = _
  rw [c1, cond_false]
theorem decL_mend {d v : List UInt8} {t : Nat} {a : UInt8} (h : locF (co (synL d v)) = ⟨1, (t : Int), a⟩) : decL d v = (d.set t (d.getD t 0 ^^^ a)).drop 4 := by
  unfold decL
  rw [h]
  rfl
theorem word2_drop (d v : List UInt8) : (wordL d v).drop 4 = d := by unfold wordL; exact List.drop_left' (chkL_len d v)
theorem word2_zero {l : List UInt8} (hl : l.length = 64) {x : Int} {r : List UInt8} (hr : r.length = 72) {k : Nat} (hk : k < 2) (h : wC 2 (encT 36 (eW2 l x false) 2) r k = 0) : cK r x k = 0 ∧ cW r x k = hfL l k := by
  have h36 := wC_supp hl x false hr x false hk
  have hv := eC_virt hl x false hr x false hk
  have h39 := supp39 (eC l x false r x false k)
  rw [show (36 : Nat) = 36 + 0 from rfl, show (37 : Nat) = 36 + 1 from rfl, show (38 : Nat) = 36 + 2 from rfl, hv 0, hv 1, hv 2, UInt8.xor_self, UInt8.xor_self, UInt8.xor_self, if_pos rfl, ← h36, h] at h39
  have hloc := (loc_e hl x false hr x false hk).trans (loc_none h39)
  refine ⟨by rw [cK_of hloc]; rfl, ?_⟩
  unfold cW
  rw [decL_kept hloc (by decide)]
  have he : ∀ i, i < 36 → (w36 r k).getD i 0 = (wordL (hfL l k) (dvirt_0 x false)).getD i 0 := by
    intro i hi
    have h0 : (supp (eC l x false r x false k) 36).length = 0 := by rw [← h36, h]
    rw [supp_len] at h0
    have h1 := (sumN_zero 36).1 h0 i hi
    unfold eC at h1
    rw [coLk (by rw [w36_len hr hk]; exact hi), coLk (by rw [wordL_len _ _ (hfL_len hl hk)]; exact hi)] at h1
    by_cases e : (w36 r k).getD i 0 ^^^ (wordL (hfL l k) (dvirt_0 x false)).getD i 0 = 0
    · exact (xor_eq0.1 e).symm
    · rw [if_neg e] at h1; omega
  have hw : w36 r k = wordL (hfL l k) (dvirt_0 x false) := list_ext (by rw [w36_len hr hk, wordL_len _ _ (hfL_len hl hk)]) fun i hi => he i (by rw [w36_len hr hk] at hi; exact hi)
  rw [hw, word2_drop]
theorem word2_one {l : List UInt8} (hl : l.length = 64) {x : Int} {r : List UInt8} (hr : r.length = 72) {k : Nat} (hk : k < 2) (h : wC 2 (encT 36 (eW2 l x false) 2) r k = 1) : cK r x k = 1 ∧ cW r x k = hfL l k := by
  have h36 := wC_supp hl x false hr x false hk
  have hv := eC_virt hl x false hr x false hk
  have h39 := supp39 (eC l x false r x false k)
  rw [show (36 : Nat) = 36 + 0 from rfl, show (37 : Nat) = 36 + 1 from rfl, show (38 : Nat) = 36 + 2 from rfl, hv 0, hv 1, hv 2, UInt8.xor_self, UInt8.xor_self, UInt8.xor_self, if_pos rfl, ← h36, h] at h39
  obtain ⟨t, ht, e0, e1⟩ := supp_one h39
  have ht36 : t < 36 := Classical.byContradiction fun hn => e0 (by
    have e := hv (t - 36)
    rw [show 36 + (t - 36) = t by omega, UInt8.xor_self] at e
    exact e)
  have hloc := (loc_e hl x false hr x false hk).trans (loc_sole ht e0 e1)
  rw [if_neg (by omega)] at hloc
  refine ⟨by rw [cK_of hloc]; rfl, ?_⟩
  unfold cW
  rw [decL_mend hloc]
  have hwl := w36_len hr hk
  have hol := wordL_len (hfL l k) (dvirt_0 x false) (hfL_len hl hk)
  have hw : (w36 r k).set t ((w36 r k).getD t 0 ^^^ eC l x false r x false k t) = wordL (hfL l k) (dvirt_0 x false) := by
    refine list_ext (by rw [List.length_set, hwl, hol]) fun i hi => ?_
    rw [List.length_set, hwl] at hi
    have hei : eC l x false r x false k i = (w36 r k).getD i 0 ^^^ (wordL (hfL l k) (dvirt_0 x false)).getD i 0 := by
      unfold eC
      rw [coLk (by omega), coLk (by omega)]
    unfold co
    rw [List.getD_eq_getElem?_getD, List.getElem?_set]
    by_cases e : t = i
    · subst e
      rw [if_pos rfl, if_pos (by omega), Option.getD_some, hei, ← UInt8.xor_assoc, UInt8.xor_self, UInt8.zero_xor]
    · rw [if_neg e, ← List.getD_eq_getElem?_getD]
      have h2 := e1 i (by omega) (fun e2 => e e2.symm)
      rw [hei] at h2
      exact (xor_eq0.1 h2).symm
  rw [hw, word2_drop]
theorem word2_lost {l : List UInt8} (hl : l.length = 64) {x : Int} {p : Bool} {r : List UInt8} (hr : r.length = 72) {y : Int} {k : Nat} (hk : k < 2) (h2 : 2 ≤ (supp (eC l x p r y false k) 39).length) (h3 : (supp (eC l x p r y false k) 39).length ≤ 3) : cK r y k = 3 := by
  have hloc := (loc_e hl x p hr y false hk).trans (loc_lost h2 h3)
  rw [cK_of hloc]; rfl
theorem bit128 : ∀ n, n < 256 → (UInt8.ofNat n &&& 127) ^^^ ((UInt8.ofNat n &&& 127) ||| 128) = 128 := by decide +kernel
theorem virt_0 (x : Int) (p : Bool) : (dvirt_0 x p).getD 0 0 = u8I x := by cases p <;> rfl
theorem virt_1 (x : Int) (p : Bool) : (dvirt_0 x p).getD 1 0 = u8I (x / 256) := by cases p <;> rfl
theorem virt_2f (x : Int) : (dvirt_0 x false).getD 2 0 = u8I (x / 65536) &&& 127 := rfl
theorem virt_2t (x : Int) : (dvirt_0 x true).getD 2 0 = (u8I (x / 65536) &&& 127) ||| 128 := rfl
theorem virt_bit (x : Int) : (dvirt_0 x false).getD 2 0 ^^^ (dvirt_0 x true).getD 2 0 = 128 := by
  rw [virt_2f, virt_2t]
  have h := bit128 (u8I (x / 65536)).toNat (UInt8.toNat_lt _)
  rwa [UInt8.ofNat_toNat] at h
theorem poison39 {l : List UInt8} (hl : l.length = 64) {x : Int} {r : List UInt8} (hr : r.length = 72) {k : Nat} (hk : k < 2) : (supp (eC l x true r x false k) 39).length = wC 2 (encT 36 (eW2 l x true) 2) r k + 1 ∧ eC l x true r x false k 38 = 128 := by
  have h36 := wC_supp hl x true hr x false hk
  have hv := eC_virt hl x true hr x false hk
  have h39 := supp39 (eC l x true r x false k)
  have e38 : eC l x true r x false k 38 = 128 := (hv 2).trans (virt_bit x)
  have e36 : eC l x true r x false k 36 = 0 := (hv 0).trans (by rw [virt_0, virt_0, UInt8.xor_self])
  have e37 : eC l x true r x false k 37 = 0 := (hv 1).trans (by rw [virt_1, virt_1, UInt8.xor_self])
  rw [e36, e37, e38, if_pos rfl, if_neg (by decide), ← h36] at h39
  exact ⟨h39, e38⟩
theorem word2_poison {l : List UInt8} (hl : l.length = 64) {x : Int} {r : List UInt8} (hr : r.length = 72) {k : Nat} (hk : k < 2) (h : wC 2 (encT 36 (eW2 l x true) 2) r k ≤ 2) : 2 ≤ cK r x k := by
  obtain ⟨h39, e38⟩ := poison39 hl (x := x) hr hk
  by_cases h0 : wC 2 (encT 36 (eW2 l x true) 2) r k = 0
  · rw [h0] at h39
    obtain ⟨t, ht, e0, e1⟩ := supp_one h39
    have ht38 : t = 38 := Classical.byContradiction fun hn => absurd (e1 38 (by decide) (fun e => hn e.symm)) (by rw [e38]; decide)
    subst ht38
    have hloc := (loc_e hl x true hr x false hk).trans (loc_sole ht e0 e1)
    rw [if_pos (by decide), e38] at hloc
    rw [cK_of hloc]; decide
  · rw [word2_lost hl (x := x) (p := true) hr hk (by omega) (by omega)]; decide
theorem word2_stray {l : List UInt8} (hl : l.length = 64) {x y : Int} (hv : dvirt_0 x false ≠ dvirt_0 y false) {k : Nat} (hk : k < 2) : cK (encT 36 (eW2 l x false) 2) y k = 3 := by
  have hr := own2_len hl x false
  have h36 := wC_supp hl x false hr y false hk
  have hvv := eC_virt hl x false hr y false hk
  have h39 := supp39 (eC l x false (encT 36 (eW2 l x false) 2) y false k)
  have hw0 : wC 2 (encT 36 (eW2 l x false) 2) (encT 36 (eW2 l x false) 2) k = 0 := by
    have h0 : expo 2 (encT 36 (eW2 l x false) 2) (encT 36 (eW2 l x false) 2) = 0 := (expo_zero (.inr rfl) hr hr).2 rfl
    have h1 := wC_le_expo (mode := 2) hr hr (i := k) hk
    omega
  rw [← h36, hw0] at h39
  have hne : (supp (eC l x false (encT 36 (eW2 l x false) 2) y false k) 39).length ≠ 0 := by
    intro h0
    rw [h0] at h39
    have g : ∀ t, t < 3 → eC l x false (encT 36 (eW2 l x false) 2) y false k (36 + t) = 0 := by
      intro t ht
      have i0 : ∀ z : UInt8, (if z = 0 then 0 else 1) = 0 → z = 0 := fun z h => by
        by_cases hz : z = 0
        · exact hz
        · rw [if_neg hz] at h; omega
      obtain ⟨a0, h39⟩ := Nat.add_eq_zero_iff.1 h39.symm
      obtain ⟨a1, b0⟩ := Nat.add_eq_zero_iff.1 a0
      obtain ⟨_, c0⟩ := Nat.add_eq_zero_iff.1 a1
      have hc : t = 0 ∨ t = 1 ∨ t = 2 := by omega
      rcases hc with rfl | rfl | rfl
      · exact i0 _ c0
      · exact i0 _ b0
      · exact i0 _ h39
    refine hv (list_ext (by rw [dvirt_len, dvirt_len]) fun i hi => ?_)
    rw [dvirt_len] at hi
    have h1 := g i hi
    rw [hvv i] at h1
    exact xor_eq0.1 h1
  have hle : (supp (eC l x false (encT 36 (eW2 l x false) 2) y false k) 39).length ≤ 3 := by
    rw [h39]
    split <;> split <;> split <;> omega
  by_cases h1 : (supp (eC l x false (encT 36 (eW2 l x false) 2) y false k) 39).length = 1
  · obtain ⟨t, ht, e0, e1⟩ := supp_one h1
    have ht36 : 36 ≤ t := Classical.byContradiction fun hn => by
      have h2 := (sumN_zero 36).1 (show sumN (fun i => if eC l x false (encT 36 (eW2 l x false) 2) y false k i = 0 then 0 else 1) 36 = 0 by rw [← supp_len, ← h36, hw0]) t (by omega)
      rw [if_neg e0] at h2
      omega
    have hloc := (loc_e hl x false hr y false hk).trans (loc_sole ht e0 e1)
    rw [if_pos (by omega)] at hloc
    rw [cK_of hloc, if_neg (by decide), if_neg (by decide)]
    refine if_neg ?_
    rintro ⟨_, h38, h128⟩
    have ht38 : t = 38 := by omega
    subst ht38
    rw [hvv 2, virt_2f, virt_2f] at h128
    have b : ∀ z : UInt8, (z &&& 127).toNat < 2 ^ 7 := fun z => by
      rw [UInt8.toNat_and]
      exact Nat.and_lt_two_pow _ (by decide)
    have h5 := Nat.xor_lt_two_pow (b (u8I (y / 65536))) (b (u8I (x / 65536)))
    have h6 := congrArg UInt8.toNat h128
    rw [UInt8.toNat_xor, show (128 : UInt8).toNat = 128 from rfl] at h6
    omega
  · exact word2_lost hl hr hk (by omega) hle
end Go.Proofs.Ytkeheickaogpiaa
