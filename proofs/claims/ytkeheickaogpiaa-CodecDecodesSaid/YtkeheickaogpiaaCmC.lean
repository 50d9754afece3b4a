/- The code of bits: lines. Plain mathematics. -/
import Derived.Test.YtkeheickaogpiaaCmB
namespace Go.Proofs.Ytkeheickaogpiaa
open Go Go.RowKit Go.Shelf

/-! Words' verdicts joined. -/
theorem fmax (l : List Int) : ∀ a : Int, (a ≤ l.foldl max a ∧ (∀ x, x ∈ l → x ≤ l.foldl max a)) ∧ ∀ m, a ≤ m → (∀ x, x ∈ l → x ≤ m) → l.foldl max a ≤ m := by
  induction l with
  | nil => intro a; exact ⟨⟨Int.le_refl _, fun x h => absurd h List.not_mem_nil⟩, fun m h _ => h⟩
  | cons y l ih =>
    intro a
    obtain ⟨⟨h1, h2⟩, h3⟩ := ih (max a y)
    rw [List.foldl_cons]
    refine ⟨⟨by omega, fun x hx => ?_⟩, fun m hm hx => h3 m (by have := hx y List.mem_cons_self; omega) fun x h => hx x (List.mem_cons_of_mem _ h)⟩
    rcases List.mem_cons.1 hx with rfl | h
    · omega
    · exact h2 x h
theorem jK_pos (l : List Int) : 0 ≤ jK l := (fmax l 0).1.1
theorem jK_ge {l : List Int} {x : Int} (h : x ∈ l) : x ≤ jK l := (fmax l 0).1.2 x h
theorem jK_le {l : List Int} {m : Int} (h0 : 0 ≤ m) (h : ∀ x, x ∈ l → x ≤ m) : jK l ≤ m := (fmax l 0).2 m h0 h
theorem jF_go (l : List Int) : ∀ a : Int, a ≤ l.foldl (fun a k => a + dflag_0 (k == 1)) a ∧ ((1 : Int) ∈ l → a < l.foldl (fun a k => a + dflag_0 (k == 1)) a) := by
  induction l with
  | nil => intro a; exact ⟨Int.le_refl _, fun h => absurd h List.not_mem_nil⟩
  | cons y l ih =>
    intro a
    obtain ⟨h1, h2⟩ := ih (a + dflag_0 (y == 1))
    have h3 := dflag_bd (y == 1)
    rw [List.foldl_cons]
    refine ⟨by omega, fun hx => ?_⟩
    rcases List.mem_cons.1 hx with rfl | h
    · have h4 : dflag_0 ((1 : Int) == 1) = 1 := rfl
      omega
    · have := h2 h; omega
theorem jF_pos {l : List Int} (h : (1 : Int) ∈ l) : 0 < jF l := (jF_go l 0).2 h
theorem mem_rg {f : Nat → Int} {n k : Nat} (h : k < n) : f k ∈ (List.range n).map f := List.mem_map.2 ⟨k, List.mem_range.2 h, rfl⟩
theorem all_rg {f : Nat → Int} {n : Nat} {P : Int → Prop} (h : ∀ k, k < n → P (f k)) : ∀ x, x ∈ (List.range n).map f → P x := by
  intro x hx
  obtain ⟨k, hk, rfl⟩ := List.mem_map.1 hx
  exact h k (List.mem_range.1 hk)
theorem join_right {f : Nat → Int} {c : Nat → Nat} {n e : Nat} (h : ∀ k, k < n → f k = (c k : Int)) (hc : ∀ k, k < n → c k ≤ e) (he : e ≤ 1) (h1 : e = 1 → ∃ k, k < n ∧ c k = 1) :
    jK ((List.range n).map f) = (e : Int) ∧ (decide (0 < djoin_0 ((List.range n).map f)) = ((e : Int) == 1)) := by
  have g1 : jK ((List.range n).map f) ≤ (e : Int) := jK_le (by omega) (all_rg fun k hk => by rw [h k hk]; have := hc k hk; omega)
  have g0 := jK_pos ((List.range n).map f)
  rcases (show e = 0 ∨ e = 1 by omega) with rfl | rfl
  · have e0 : jK ((List.range n).map f) = 0 := by omega
    refine ⟨e0, ?_⟩
    unfold djoin_0
    rw [e0]
    rfl
  · obtain ⟨k, hk, ck⟩ := h1 rfl
    have m1 : (1 : Int) ∈ (List.range n).map f := by
      have := mem_rg (f := f) hk
      rwa [h k hk, ck] at this
    have g2 := jK_ge m1
    have e1 : jK ((List.range n).map f) = 1 := by omega
    refine ⟨e1, ?_⟩
    unfold djoin_0
    rw [e1]
    show decide (0 < jF _) = true
    exact decide_eq_true (jF_pos m1)
theorem join_bad {f : Nat → Int} {n k : Nat} (hk : k < n) (h : 2 ≤ f k) : 2 ≤ jK ((List.range n).map f) := Int.le_trans h (jK_ge (mem_rg hk))

/-! Lines. -/
theorem own1_len (l : List UInt8) (x : Int) (p : Bool) : (encT 9 (eW1 l x p) 8).length = 72 := encT_len (n := 9) (eW1_len l x p) (k := 8) (by decide)
theorem fill_line {l : List UInt8} (hl : l.length = 64) {f : Nat → Nat} (h : ∀ k, k < 8 → f k = numO l (8 * k) 8) : fillL 64 (fwB (fillG 0 8 f 8)) (8 * 8) = l := by
  refine List.ext_getElem (by rw [fillL_len, hl]) fun i h1 h2 => ?_
  have hi : i < 64 := by rw [fillL_len] at h1; exact h1
  have e : (fillL 64 (fwB (fillG 0 8 f 8)) (8 * 8)).getD i 0 = l.getD i 0 := by
    rw [fillL_get hi, if_pos hi]
    unfold fwB
    rw [fillG_get (show i / 8 < 8 by omega), if_pos (by omega), h _ (by omega)]
    have hv := numO_val (xs := l) (off := 8 * (i / 8)) (n := 8) (j := i % 8) (by omega)
    rw [show 8 * (i / 8) + i % 8 = i by omega] at hv
    apply UInt8.toNat_inj.1
    rw [UInt8.toNat_ofNat', Nat.pow_mul, ← hv]
  rw [List.getD_eq_getElem?_getD, List.getD_eq_getElem?_getD, List.getElem?_eq_getElem h1, List.getElem?_eq_getElem h2] at e
  exact e
theorem wC1_le {l : List UInt8} {x : Int} {p : Bool} {r : List UInt8} (hr : r.length = 72) {k : Nat} (hk : k < 8) : erW (zD l r k) (zK l x p r k) ≤ expo 1 (encT 9 (eW1 l x p) 8) r := by
  rw [← wC_er hk]; exact wC_le_expo (own1_len l x p) hr hk
theorem wC1_hit {l : List UInt8} {x : Int} {p : Bool} {r : List UInt8} (hr : r.length = 72) {m : Nat} (h : expo 1 (encT 9 (eW1 l x p) 8) r = m + 1) : ∃ k, k < 8 ∧ erW (zD l r k) (zK l x p r k) = m + 1 := by
  have h1 : ¬ expo 1 (encT 9 (eW1 l x p) 8) r ≤ m := by omega
  rw [expo_le_iff (own1_len l x p) hr] at h1
  simp only [Classical.not_forall] at h1
  obtain ⟨k, hk, h2⟩ := h1
  have h3 := wC1_le (l := l) (x := x) (p := p) hr hk
  rw [wC_er hk] at h2
  exact ⟨k, hk, by omega⟩
theorem right1 {l : List UInt8} (hl : l.length = 64) {x : Int} {r : List UInt8} (hr : r.length = 72) (h : expo 1 (encT 9 (eW1 l x false) 8) r ≤ 1) :
    dDec1_0 r x = l ∧ jK ((List.range 8).map (dK r x)) = (expo 1 (encT 9 (eW1 l x false) 8) r : Int) ∧ (decide (0 < djoin_0 ((List.range 8).map (dK r x))) = ((expo 1 (encT 9 (eW1 l x false) 8) r : Int) == 1)) := by
  have hw := fun k (hk : k < 8) => word_right (Nat.le_trans (wC1_le (l := l) (x := x) (p := false) hr hk) h)
  have hj := join_right (f := dK r x) (c := fun k => erW (zD l r k) (zK l x false r k)) (n := 8) (e := expo 1 (encT 9 (eW1 l x false) 8) r) (fun k hk => (hw k hk).1) (fun k hk => wC1_le hr hk) h fun h1 => wC1_hit hr h1
  refine ⟨?_, hj⟩
  unfold dDec1_0
  rw [hj.1, decide_eq_false (by omega), cond_false]
  exact fill_line hl fun k hk => (hw k hk).2
theorem bad1 {r : List UInt8} {x : Int} (h : 2 ≤ jK ((List.range 8).map (dK r x))) : dDec1_0 r x = List.replicate 64 0 := by
  unfold dDec1_0
  rw [decide_eq_true h, cond_true]
theorem lost1 {l : List UInt8} {x : Int} {r : List UInt8} (hr : r.length = 72) (h : expo 1 (encT 9 (eW1 l x false) 8) r = 2) : 2 ≤ jK ((List.range 8).map (dK r x)) := by
  obtain ⟨k, hk, e⟩ := wC1_hit hr h
  exact join_bad hk (by rw [word_lost e]; decide)
theorem poison1 {l : List UInt8} {x : Int} {r : List UInt8} (hr : r.length = 72) (h : expo 1 (encT 9 (eW1 l x true) 8) r ≤ 1) : 2 ≤ jK ((List.range 8).map (dK r x)) :=
  join_bad (k := 0) (by decide) (word_poison (Nat.le_trans (wC1_le hr (by decide)) h))
theorem stray1 {l : List UInt8} {x y : Int} (hp : par23 x ≠ par23 y) : 2 ≤ jK ((List.range 8).map (dK (encT 9 (eW1 l x false) 8) y)) := by
  have h0 : expo 1 (encT 9 (eW1 l x false) 8) (encT 9 (eW1 l x false) 8) = 0 := (expo_zero (.inl rfl) (own1_len l x false) (own1_len l x false)).2 rfl
  have h1 := wC1_le (l := l) (x := x) (p := false) (own1_len l x false) (k := 0) (by decide)
  rw [h0] at h1
  exact join_bad (k := 0) (by decide) (by rw [word_stray (Nat.le_zero.1 h1) hp]; decide)

/-! Two lines. -/
theorem num_of_own {m : List UInt8} {x : Int} {p : Bool} {k : Nat} (hk : k < 8) : numO (w9 (encT 9 (eW1 m x p) 8) k) 0 8 = numO m (8 * k) 8 := by
  rw [numO_congr (ys := encT 9 (eW1 m x p) 8) (b := 9 * k) 8 fun j hj => by rw [Nat.zero_add]; exact w9_get (by omega)]
  exact own_num hk
theorem lines_eq {l m : List UInt8} (hl : l.length = 64) (hm : m.length = 64) (h : ∀ k, k < 8 → numO l (8 * k) 8 = numO m (8 * k) 8) : l = m := by
  rw [← fill_line hm (f := fun k => numO l (8 * k) 8) h]
  exact (fill_line hl fun k _ => rfl).symm
theorem apart1 {l m : List UInt8} (hl : l.length = 64) (hm : m.length = 64) (x : Int) (p q : Bool) (h : ¬ (l = m ∧ p = q)) : (if p = q then 4 else 3) ≤ expo 1 (encT 9 (eW1 l x p) 8) (encT 9 (eW1 m x q) 8) := by
  obtain ⟨r, hr⟩ : ∃ r, encT 9 (eW1 m x q) 8 = r := ⟨_, rfl⟩
  have hS : ∀ k, k < 8 → erS (zD l r k) (zK l x p r k) = Hs.mark (p.toNat ^^^ q.toNat) 73 := by
    intro k hk
    unfold erS zD zK
    rw [← hr, num_of_own hk, w9_get (by omega), encT_get (eW1_len m x q) hk (by omega), eW1_hi, hck_nat, hck_nat, low_par, low_flag, low_flag, Hs.mark_xor]
    unfold Hs.chk
    rw [Hs.cs_xor]
    generalize Hs.cs (numO l (8 * k) 8) = A
    generalize Hs.cs (numO m (8 * k) 8) = B
    generalize Hs.mark (par23 x) 72 = C
    generalize Hs.mark p.toNat 73 = D
    generalize Hs.mark q.toNat 73 = E
    apply Nat.eq_of_testBit_eq
    intro i
    simp only [Nat.testBit_xor]
    cases A.testBit i <;> cases B.testBit i <;> cases C.testBit i <;> cases D.testBit i <;> cases E.testBit i <;> rfl
  have hlr : r.length = 72 := by rw [← hr]; exact own1_len m x q
  rw [hr]
  by_cases hpq : p = q
  · rw [if_pos hpq]
    have hlm : l ≠ m := fun e => h ⟨e, hpq⟩
    have hk : ∃ k, k < 8 ∧ numO l (8 * k) 8 ≠ numO m (8 * k) 8 := by
      refine Classical.byContradiction fun hc => hlm (lines_eq hl hm fun k hk => Classical.byContradiction fun hn => hc ⟨k, hk, hn⟩)
    obtain ⟨k, hk, hn⟩ := hk
    have h0 := (hS k hk).trans (show Hs.mark (p.toNat ^^^ q.toNat) 73 = 0 by rw [hpq, Nat.xor_self]; rfl)
    have hpar := e_par (zD_lt l r k) (zK_lt l x p r k)
    rw [h0, pc_zero] at hpar
    have n0 : erW (zD l r k) (zK l x p r k) ≠ 0 := by
      intro e
      have h1 := ((erW_zero (zD_lt l r k) (zK_lt l x p r k)).1 e).1
      unfold zD at h1
      rw [← hr, num_of_own hk] at h1
      refine hn ?_
      have h2 := congrArg (· ^^^ numO m (8 * k) 8) h1
      simpa [Nat.xor_assoc] using h2
    have n2 : erW (zD l r k) (zK l x p r k) ≠ 2 := by
      intro e
      obtain ⟨s, t, hs, ht, hst, e2⟩ := e_two (zD_lt l r k) (zK_lt l x p r k) e
      refine hst (Hs.col_inj (by omega) (by omega) ?_)
      rw [h0] at e2
      have h2 := congrArg (· ^^^ Hs.col t) e2
      simpa [Nat.xor_assoc] using h2.symm
    have h4 := wC1_le (l := l) (x := x) (p := p) hlr hk
    omega
  · rw [if_neg hpq]
    have h0 := hS 0 (by decide)
    rw [show Hs.mark (p.toNat ^^^ q.toNat) 73 = Hs.col 73 by cases p <;> cases q <;> first | exact absurd rfl hpq | rfl] at h0
    have hpar := e_par (zD_lt l r 0) (zK_lt l x p r 0)
    rw [h0, Hs.col_odd (by decide)] at hpar
    have n1 : erW (zD l r 0) (zK l x p r 0) ≠ 1 := by
      intro e
      obtain ⟨t, ht, e2, _⟩ := e_one (zD_lt l r 0) (zK_lt l x p r 0) e
      have := Hs.col_inj (by decide) (by omega) (h0.symm.trans e2)
      omega
    have h4 := wC1_le (l := l) (x := x) (p := p) hlr (k := 0) (by decide)
    omega
end Go.Proofs.Ytkeheickaogpiaa
