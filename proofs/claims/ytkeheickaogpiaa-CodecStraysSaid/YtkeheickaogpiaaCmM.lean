/- The code of chips: lines; two lines apart; a chip and a bit. Plain mathematics. -/
import Derived.Test.YtkeheickaogpiaaCmL
namespace Go.Proofs.Ytkeheickaogpiaa
open Go Go.RowKit Go.Shelf

theorem halves_line {l : List UInt8} (hl : l.length = 64) {f : Nat → List UInt8} (h : ∀ k, k < 2 → f k = hfL l k) : halfT (hvT f 2) 2 = l := by
  have e : hvT f 2 = l := by
    show (f 0 ++ (f 1 ++ [])) ++ [] = l
    rw [List.append_nil, List.append_nil, h 0 (by decide), h 1 (by decide)]
    unfold hfL
    rw [show 32 * 0 = 0 from rfl, show 32 * 1 = 32 from rfl, List.drop_zero, List.take_of_length_le (l := l.drop 32) (by rw [List.length_drop]; omega), List.take_append_drop]
  rw [e, halfT_two hl]
theorem wC2_hit {l : List UInt8} (hl : l.length = 64) {x : Int} {p : Bool} {r : List UInt8} (hr : r.length = 72) {m : Nat} (h : expo 2 (encT 36 (eW2 l x p) 2) r = m + 1) : ∃ k, k < 2 ∧ wC 2 (encT 36 (eW2 l x p) 2) r k = m + 1 := by
  have h1 : ¬ expo 2 (encT 36 (eW2 l x p) 2) r ≤ m := by omega
  rw [expo_le_iff (own2_len hl x p) hr] at h1
  simp only [Classical.not_forall] at h1
  obtain ⟨k, hk, h2⟩ := h1
  have h3 := wC_le_expo (mode := 2) (own2_len hl x p) hr hk
  exact ⟨k, hk, by omega⟩
theorem wC2_le {l : List UInt8} (hl : l.length = 64) (x : Int) (p : Bool) {r : List UInt8} (hr : r.length = 72) {k : Nat} (hk : k < 2) : wC 2 (encT 36 (eW2 l x p) 2) r k ≤ expo 2 (encT 36 (eW2 l x p) 2) r := wC_le_expo (mode := 2) (own2_len hl x p) hr hk
theorem right2 {l : List UInt8} (hl : l.length = 64) {x : Int} {r : List UInt8} (hr : r.length = 72) (h : expo 2 (encT 36 (eW2 l x false) 2) r ≤ 1) :
    dDec2_0 r x = l ∧ jK ((List.range 2).map (cK r x)) = (expo 2 (encT 36 (eW2 l x false) 2) r : Int) ∧ (decide (0 < djoin_0 ((List.range 2).map (cK r x))) = ((expo 2 (encT 36 (eW2 l x false) 2) r : Int) == 1)) := by
  have hw : ∀ k, k < 2 → cK r x k = (wC 2 (encT 36 (eW2 l x false) 2) r k : Int) ∧ cW r x k = hfL l k := by
    intro k hk
    have h1 := wC2_le hl x false hr hk
    rcases (show wC 2 (encT 36 (eW2 l x false) 2) r k = 0 ∨ wC 2 (encT 36 (eW2 l x false) 2) r k = 1 by omega) with h0 | h0
    · rw [h0]; exact word2_zero hl hr hk h0
    · rw [h0]; exact word2_one hl hr hk h0
  have hj := join_right (f := cK r x) (c := fun k => wC 2 (encT 36 (eW2 l x false) 2) r k) (n := 2) (e := expo 2 (encT 36 (eW2 l x false) 2) r) (fun k hk => (hw k hk).1) (fun k hk => wC2_le hl x false hr hk) h fun h1 => wC2_hit hl hr h1
  refine ⟨?_, hj⟩
  unfold dDec2_0
  rw [hj.1, decide_eq_false (by omega), cond_false]
  exact halves_line hl fun k hk => by rw [cWx_lt hk]; exact (hw k hk).2
theorem bad2 {r : List UInt8} {x : Int} (h : 2 ≤ jK ((List.range 2).map (cK r x))) : dDec2_0 r x = List.replicate 64 0 := by
  unfold dDec2_0
  rw [decide_eq_true h, cond_true]
theorem same39 {l : List UInt8} (hl : l.length = 64) {x : Int} {r : List UInt8} (hr : r.length = 72) {k : Nat} (hk : k < 2) : (supp (eC l x false r x false k) 39).length = wC 2 (encT 36 (eW2 l x false) 2) r k := by
  have h36 := wC_supp hl x false hr x false hk
  have hv := eC_virt hl x false hr x false hk
  have h39 := supp39 (eC l x false r x false k)
  have v0 : eC l x false r x false k 36 = 0 := (hv 0).trans UInt8.xor_self
  have v1 : eC l x false r x false k 37 = 0 := (hv 1).trans UInt8.xor_self
  have v2 : eC l x false r x false k 38 = 0 := (hv 2).trans UInt8.xor_self
  rw [v0, v1, v2, if_pos rfl] at h39
  omega
theorem lost2 {l : List UInt8} (hl : l.length = 64) {x : Int} {r : List UInt8} (hr : r.length = 72) (h2 : 2 ≤ expo 2 (encT 36 (eW2 l x false) 2) r) (h3 : expo 2 (encT 36 (eW2 l x false) 2) r ≤ 3) : jK ((List.range 2).map (cK r x)) = 3 := by
  obtain ⟨m, hm⟩ : ∃ m, expo 2 (encT 36 (eW2 l x false) 2) r = m + 1 := ⟨expo 2 (encT 36 (eW2 l x false) 2) r - 1, by omega⟩
  obtain ⟨k, hk, e⟩ := wC2_hit hl hr hm
  have h39 := same39 hl (x := x) hr hk
  have h1 := word2_lost hl (x := x) (p := false) (y := x) hr hk (by omega) (by omega)
  have g1 := jK_ge (mem_rg (f := cK r x) hk)
  have g2 : jK ((List.range 2).map (cK r x)) ≤ 3 := jK_le (by decide) (all_rg (P := fun z => z ≤ 3) fun k _ => cK_le r x k)
  rw [h1] at g1
  generalize jK ((List.range 2).map (cK r x)) = z at g1 g2 ⊢
  omega
theorem poison2 {l : List UInt8} (hl : l.length = 64) {x : Int} {r : List UInt8} (hr : r.length = 72) (h : expo 2 (encT 36 (eW2 l x true) 2) r ≤ 2) : 2 ≤ jK ((List.range 2).map (cK r x)) :=
  join_bad (k := 0) (by decide) (word2_poison hl hr (by decide) (Nat.le_trans (wC2_le hl x true hr (by decide)) h))
theorem stray2 {l : List UInt8} (hl : l.length = 64) {x y : Int} (hv : dvirt_0 x false ≠ dvirt_0 y false) : 2 ≤ jK ((List.range 2).map (cK (encT 36 (eW2 l x false) 2) y)) :=
  join_bad (k := 0) (by decide) (by rw [word2_stray hl hv (by decide)]; decide)
/-- Two lines' words. -/
theorem eC_isC {l m : List UInt8} (hl : l.length = 64) (hm : m.length = 64) (x : Int) (p q : Bool) {k : Nat} (hk : k < 2) : isC (eC l x p (encT 36 (eW2 m x q) 2) x q k) := by
  have h1 := word_isC (hfL m k) (dvirt_0 x q) (hfL_len hm hk) (dvirt_len x q)
  have h2 := word_isC (hfL l k) (dvirt_0 x p) (hfL_len hl hk) (dvirt_len x p)
  refine (h1.xor h2).congr fun i hi => ?_
  unfold eC
  rw [own2_w hm x q hk]
theorem far5 {e : Nat → UInt8} (h : isC e) {i : Nat} (hi : i < 39) (h0 : e i ≠ 0) : 5 ≤ (supp e 39).length := by
  refine Classical.byContradiction fun hn => h0 (mds39 (by omega) h i hi)
theorem apart2 {l m : List UInt8} (hl : l.length = 64) (hm : m.length = 64) (x : Int) (p q : Bool) (h : ¬ (l = m ∧ p = q)) : (if p = q then 5 else 4) ≤ expo 2 (encT 36 (eW2 l x p) 2) (encT 36 (eW2 m x q) 2) := by
  have hr := own2_len hm x q
  by_cases hpq : p = q
  · rw [if_pos hpq]
    subst hpq
    have hk : ∃ k, k < 2 ∧ hfL l k ≠ hfL m k := by
      refine Classical.byContradiction fun hc => h ⟨?_, rfl⟩
      rw [← halves_line hl (f := hfL l) (fun k _ => rfl)]
      exact halves_line hm fun k hk => Classical.byContradiction fun hn => hc ⟨k, hk, hn⟩
    obtain ⟨k, hk, hn⟩ := hk
    have hi : ∃ i, i < 39 ∧ eC l x p (encT 36 (eW2 m x p) 2) x p k i ≠ 0 := by
      refine Classical.byContradiction fun hc => hn (list_ext (by rw [hfL_len hl hk, hfL_len hm hk]) fun i hi => ?_)
      rw [hfL_len hl hk] at hi
      have h1 : eC l x p (encT 36 (eW2 m x p) 2) x p k (4 + i) = 0 := Classical.byContradiction fun h2 => hc ⟨4 + i, by omega, h2⟩
      unfold eC at h1
      rw [own2_w hm x p hk, coLk (by rw [wordL_len _ _ (hfL_len hm hk)]; omega), coLk (by rw [wordL_len _ _ (hfL_len hl hk)]; omega)] at h1
      have h2 := xor_eq0.1 h1
      unfold wordL at h2
      have g := fun (a b : List UInt8) (ha : a.length = 4) => coRk (x := a) (y := b) (n := 4) (i := i) ha
      exact (g _ _ (chkL_len _ _)).symm.trans (h2.trans (g _ _ (chkL_len _ _)))
    obtain ⟨i, hi, h0⟩ := hi
    have h5 := far5 (eC_isC hl hm x p p hk) hi h0
    have h36 := wC_supp hl x p hr x p hk
    have hv := eC_virt hl x p hr x p hk
    have h39 := supp39 (eC l x p (encT 36 (eW2 m x p) 2) x p k)
    have v0 : eC l x p (encT 36 (eW2 m x p) 2) x p k 36 = 0 := (hv 0).trans UInt8.xor_self
    have v1 : eC l x p (encT 36 (eW2 m x p) 2) x p k 37 = 0 := (hv 1).trans UInt8.xor_self
    have v2 : eC l x p (encT 36 (eW2 m x p) 2) x p k 38 = 0 := (hv 2).trans UInt8.xor_self
    rw [v0, v1, v2, if_pos rfl, ← h36] at h39
    have h1 := wC2_le hl x p hr hk
    omega
  · rw [if_neg hpq]
    have hk : (0 : Nat) < 2 := by decide
    have hv := eC_virt hl x p hr x q hk
    have v0 : eC l x p (encT 36 (eW2 m x q) 2) x q 0 36 = 0 := (hv 0).trans (by rw [virt_0, virt_0, UInt8.xor_self])
    have v1 : eC l x p (encT 36 (eW2 m x q) 2) x q 0 37 = 0 := (hv 1).trans (by rw [virt_1, virt_1, UInt8.xor_self])
    have v2 : eC l x p (encT 36 (eW2 m x q) 2) x q 0 38 = 128 := (hv 2).trans (by
      cases p <;> cases q
      · exact absurd rfl hpq
      · rw [UInt8.xor_comm]; exact virt_bit x
      · exact virt_bit x
      · exact absurd rfl hpq)
    have h5 := far5 (eC_isC hl hm x p q hk) (i := 38) (by decide) (by rw [v2]; decide)
    have h36 := wC_supp hl x p hr x q hk
    have h39 := supp39 (eC l x p (encT 36 (eW2 m x q) 2) x q 0)
    rw [v0, v1, v2, if_pos rfl, if_neg (by decide), ← h36] at h39
    have h1 := wC2_le hl x p hr hk
    omega
/-- A bit that is turned exposes by one symbol at most. -/
theorem flip_expo {xs : List UInt8} (hx : xs.length = 72) (b : Int) : expo 2 xs (flipI xs b) ≤ 1 := by
  have hf : (flipI xs b).length = 72 := by rw [flipI_length, hx]
  refine (expo_le_iff hx hf).2 fun k hk => ?_
  by_cases hb : 0 ≤ b ∧ b.toNat / 8 < xs.length
  · have hs : flipI xs b = xs.set (b.toNat / 8) (xs.getD (b.toNat / 8) 0 ^^^ UInt8.ofNat (2 ^ (b.toNat % 8))) := if_pos hb
    obtain ⟨t, ht⟩ : ∃ t, b.toNat / 8 = t := ⟨_, rfl⟩
    rw [ht] at hs
    have hz : ∀ i, i < 36 → i ≠ t - 36 * k → cst 2 (xs.getD (36 * k + i) 0) ((flipI xs b).getD (36 * k + i) 0) = 0 := by
      intro i hi hne
      refine cst_zero.2 ?_
      rw [hs, List.getD_eq_getElem?_getD, List.getD_eq_getElem?_getD, List.getElem?_set]
      by_cases e : t = 36 * k + i
      · omega
      · rw [if_neg e]
    have h1 : wC 2 xs (flipI xs b) k = sumN (fun j => cst 2 (xs.getD (36 * k + j) 0) ((flipI xs b).getD (36 * k + j) 0)) 36 := rfl
    rw [h1, sumN_one 36 hz]
    split
    · exact cst_le 2 _ _
    · exact Nat.zero_le _
  · rw [flipI_out hb]
    exact Nat.le_trans (Nat.le_of_eq ((sumN_zero _).2 fun _ _ => cst_self _ _)) (Nat.zero_le 1)
theorem chip2_expo {xs : List UInt8} (hx : xs.length = 72) (c : Int) (v : UInt8) : expo 2 xs (chipB 2 xs c v) ≤ 1 := by
  by_cases h : 0 ≤ c ∧ c < chN 2
  · obtain ⟨n, rfl⟩ := Int.eq_ofNat_of_zero_le h.1
    exact chip_expo (.inr rfl) hx (by omega) v
  · rw [chipB_out h]
    have := (expo_zero (.inr rfl) hx hx).2 rfl
    omega
end Go.Proofs.Ytkeheickaogpiaa
