/- DiagnoseWrong: the law, walked. -/
import Derived.Test.YtdglhppcfdpcaaaHx
import Derived.Test.YtdglhppcfdpcaaaHw
import Derived.Test.YtdglhppcfdpcaaaCpY
namespace Go.Proofs.Ytdglhppcfdpcaaa.E
open Go Go.RowKit Go.Shelf
set_option linter.unusedVariables false
set_option linter.unusedSimpArgs false
/-- Is a byte of a chip's another one, among the first i? -/
def wrG (n : Nat) (a b : List UInt8) (c : Nat) : Nat → Bool
  | 0 => false
  | i + 1 => wrG n a b c i || (((((i % n : Nat) : Int) == ((c : Nat) : Int))) && (((a.getD i 0).toNat : Int) != ((b.getD i 0).toNat : Int)))
theorem wrG_any (n : Nat) (a b : List UInt8) (c : Nat) : ∀ k, wrG n a b c k = true ↔ ∃ i, i < k ∧ i % n = c ∧ a.getD i 0 ≠ b.getD i 0
  | 0 => ⟨fun h => by simp [wrG] at h, fun ⟨i, h, _⟩ => by omega⟩
  | k + 1 => by
    rw [wrG, Bool.or_eq_true, wrG_any n a b c k, Bool.and_eq_true, beq_iff_eq, bne_iff_ne]
    constructor
    · rintro (⟨i, h1, h2⟩ | ⟨h1, h2⟩)
      · exact ⟨i, by omega, h2⟩
      · exact ⟨k, by omega, by omega, fun e => h2 (by rw [e])⟩
    · rintro ⟨i, h1, h2, h3⟩
      by_cases e : i = k
      · subst e; exact .inr ⟨by omega, fun e2 => h3 (UInt8.toNat_inj.1 (by omega))⟩
      · exact .inl ⟨i, by omega, h2, h3⟩
theorem wrT_any {n w : Nat} {a b : List UInt8} {c : Nat} : wrT n w a b c = true ↔ ∃ k, k < w ∧ a.getD (n * k + c) 0 ≠ b.getD (n * k + c) 0 := by
  unfold wrT
  rw [List.any_eq_true]
  constructor
  · rintro ⟨k, h1, h2⟩
    exact ⟨k, List.mem_range.1 h1, bne_iff_ne.1 h2⟩
  · rintro ⟨k, h1, h2⟩
    exact ⟨k, List.mem_range.2 h1, bne_iff_ne.2 h2⟩
theorem wr_same {n w : Nat} (hn : 0 < n) (hw : n * w = 72) {a b : List UInt8} {c : Nat} (hc : c < n) : wrG n a b c 72 = wrT n w a b c := by
  rw [Bool.eq_iff_iff, wrG_any, wrT_any]
  constructor
  · rintro ⟨i, h1, h2, h3⟩
    refine ⟨i / n, ?_, ?_⟩
    · rw [Nat.div_lt_iff_lt_mul hn, Nat.mul_comm]; omega
    · rw [← h2, Nat.div_add_mod]; exact h3
  · rintro ⟨k, h1, h2⟩
    refine ⟨n * k + c, ?_, ?_, h2⟩
    · have : n * k + n ≤ n * w := by rw [← Nat.mul_succ]; exact Nat.mul_le_mul_left n h1
      omega
    · rw [Nat.mul_add_mod, Nat.mod_eq_of_lt hc]
theorem wrI_congr {f g : Nat → Bool} : ∀ n, (∀ k, k < n → f k = g k) → wrI f n = wrI g n
  | 0, _ => rfl
  | n + 1, h => by rw [wrI, wrI, wrI_congr n (fun k hk => h k (by omega)), h n (by omega)]
theorem wrI_le (f : Nat → Bool) : ∀ n, (wrI f n).length ≤ n
  | 0 => Nat.le_refl _
  | n + 1 => by
    rw [wrI, List.length_append]
    have := wrI_le f n
    cases f n <;> simp <;> omega
theorem wl1_le (r : List UInt8) (x : Int) : (wl1 r x).length ≤ 9 := by
  unfold wl1
  cases (jK ((List.range 8).map (dK r x)) == 1)
  · exact Nat.zero_le _
  · exact wrI_le _ _
theorem wl2_le (r : List UInt8) (x : Int) : (wl2 r x).length ≤ 36 := by
  unfold wl2
  cases (jK ((List.range 2).map (cK r x)) == 1)
  · exact Nat.zero_le _
  · exact wrI_le _ _
theorem par23_eq (x : Int) : ((pc ((x % 8388608).toNat) % 2 : Nat) : Int) = ((par23 x : Nat) : Int) := rfl
/-- Of a line with an exposure of 1 at most: the chips that are wrong. -/
theorem wl1_near {l r : List UInt8} {x : Int} (hl : l.length = 64) (hr : r.length = 72) (h1 : jK ((List.range 8).map (dK r x)) = 1) (h : expo 1 (encT 9 (eW1 l x false) 8) r ≤ 1) : wl1 r x = wrI (fun c => wrG 9 (encT 9 (eW1 l x false) 8) r c 72) 9 := by
  rw [wl1_y h1, (right1 hl hr h).1]
  exact wrI_congr 9 fun k hk => (wr_same (by decide) (by decide) hk).symm
theorem wl2_near {l r : List UInt8} {x : Int} (hl : l.length = 64) (hr : r.length = 72) (h1 : jK ((List.range 2).map (cK r x)) = 1) (h : expo 2 (encT 36 (eW2 l x false) 2) r ≤ 1) : wl2 r x = wrI (fun c => wrG 36 (encT 36 (eW2 l x false) 2) r c 72) 36 := by
  rw [wl2_y h1, (right2 hl hr h).1]
  exact wrI_congr 36 fun k hk => (wr_same (by decide) (by decide) hk).symm
theorem unlike {a b : List UInt8} (ha : a.length = 72) (hb : b.length = 72) (h : a ≠ b) : ∃ i, i < 72 ∧ a.getD i 0 ≠ b.getD i 0 := by
  rcases Classical.em (∃ i, i < 72 ∧ a.getD i 0 ≠ b.getD i 0) with h1 | h1
  · exact h1
  · refine absurd (List.ext_getElem (by omega) fun i h2 h3 => ?_) h
    rcases Classical.em (a.getD i 0 = b.getD i 0) with h4 | h4
    · rwa [List.getD_eq_getElem?_getD, List.getD_eq_getElem?_getD, List.getElem?_eq_getElem h2, List.getElem?_eq_getElem h3] at h4
    · exact absurd ⟨i, by omega, h4⟩ h1
theorem wrI_pos {f : Nat → Bool} {c : Nat} (h : f c = true) : ∀ {n : Nat}, c < n → 0 < (wrI f n).length := fun hn => by
  have := (List.getElem?_eq_some_iff.1 (wi_get h hn)).1
  omega
theorem wl1_far {r : List UInt8} {x : Int} (hr : r.length = 72) (h1 : jK ((List.range 8).map (dK r x)) = 1) : 0 < (wl1 r x).length := by
  rw [wl1_y h1]
  have hl := xDec1_len r x
  have hne : encT 9 (eW1 (xDec1_0 r x) x false) 8 ≠ r := fun e => by
    have h0 : expo 1 (encT 9 (eW1 (xDec1_0 r x) x false) 8) r = 0 := (expo_zero (.inl rfl) (enc1_len _ _ _) hr).2 e
    have h2 := (right1 (x := x) hl hr (by omega)).2.1
    rw [h0] at h2
    omega
  obtain ⟨i, hi, h2⟩ := unlike (enc1_len _ _ _) hr hne
  have h3 : wrG 9 (encT 9 (eW1 (xDec1_0 r x) x false) 8) r (i % 9) 72 = true := (wrG_any _ _ _ _ _).2 ⟨i, hi, rfl, h2⟩
  rw [wr_same (n := 9) (w := 8) (by decide) (by decide) (by omega)] at h3
  exact wrI_pos h3 (by omega)
theorem wl2_far {r : List UInt8} {x : Int} (hr : r.length = 72) (h1 : jK ((List.range 2).map (cK r x)) = 1) : 0 < (wl2 r x).length := by
  rw [wl2_y h1]
  have hl := xDec2_len hr x
  have hne : encT 36 (eW2 (xDec2_0 r x) x false) 2 ≠ r := fun e => by
    have h0 : expo 2 (encT 36 (eW2 (xDec2_0 r x) x false) 2) r = 0 := (expo_zero (.inr rfl) (enc2_len hl _ _) hr).2 e
    have h2 := (right2 (x := x) hl hr (by omega)).2.1
    rw [h0] at h2
    omega
  obtain ⟨i, hi, h2⟩ := unlike (enc2_len hl _ _) hr hne
  have h3 : wrG 36 (encT 36 (eW2 (xDec2_0 r x) x false) 2) r (i % 36) 72 = true := (wrG_any _ _ _ _ _).2 ⟨i, hi, rfl, h2⟩
  rw [wr_same (n := 36) (w := 2) (by decide) (by decide) (by omega)] at h3
  exact wrI_pos h3 (by omega)
theorem wI_at {f : Nat → Bool} {k n : Nat} (hc : f k = true) (h : k < n) : (wrI f k).length < (wrI f n).length ∧ (wrI f n).getD (wrI f k).length 0 = k := by
  have h1 := wi_get hc h
  have h2 := List.getElem?_eq_some_iff.1 h1
  refine ⟨h2.1, ?_⟩
  rw [List.getD_eq_getElem?_getD, h1]; rfl
def gI (l : List Nat) : Nat → List Int
  | 0 => []
  | k + 1 => gI l k ++ [((l.getD k 0 : Nat) : Int)]
theorem gI_len (l : List Nat) : ∀ k, (gI l k).length = k
  | 0 => rfl
  | k + 1 => by rw [gI, List.length_append, gI_len l k]; rfl
theorem gI_get (l : List Nat) : ∀ {k n : Nat}, n < k → (gI l k).getD n 0 = ((l.getD n 0 : Nat) : Int)
  | k + 1, n, h => by
    rw [gI, List.getD_eq_getElem?_getD]
    by_cases e : n = k
    · subst e
      rw [List.getElem?_append_right (by rw [gI_len]; exact Nat.le_refl _), gI_len, Nat.sub_self]; rfl
    · rw [List.getElem?_append_left (by rw [gI_len]; omega), ← List.getD_eq_getElem?_getD, gI_get l (by omega)]
theorem wi_tn {f : Nat → Bool} {k : Nat} (h : (!f k) = false) : (wrI f k).length + 1 = (wrI f (k + 1)).length := wi_t (by simpa using h)
theorem wi_fn {f : Nat → Bool} {k : Nat} (h : (!f k) = true) : (wrI f k).length = (wrI f (k + 1)).length := wi_f (by simpa using h)
theorem got_at {L : List Nat} {f : Nat → Bool} {k n : Nat} (hL : L = wrI f n) (hk : k < n) (hc : (!f k) = false) : (wrI f k).length < L.length ∧ (gI L L.length).getD (wrI f k).length 0 = (k : Int) := by
  have h := wI_at (f := f) (by simpa using hc) hk
  subst hL
  refine ⟨h.1, ?_⟩
  rw [gI_get _ h.1, h.2]
theorem t105 {a b : Nat} {c d : Int} (h : a < b) (h2 : c = d) : (decide (((b : Nat) : Int) ≤ ((a : Nat) : Int)) || (c != d)) = false := by
  subst h2
  rw [decide_eq_false (by omega)]; simp
attribute [local irreducible] jK dK cK xDec1_0 xDec2_0 encT eW1 eW2 xjoin_0 wrT wl1 wl2 hcD htD exB logL genL wrG wrI gI expo
theorem wrG_s (n : Nat) (a b : List UInt8) (c i : Nat) : wrG n a b c (i + 1) = (wrG n a b c i || (((((i % n : Nat) : Int) == ((c : Nat) : Int))) && (((a.getD i 0).toNat : Int) != ((b.getD i 0).toNat : Int)))) := by rw [wrG]
theorem wrG_0 (n : Nat) (a b : List UInt8) (c : Nat) : wrG n a b c 0 = false := by rw [wrG]
theorem wrI_0 (f : Nat → Bool) : (wrI f 0).length = 0 := by rw [wrI]; rfl
theorem gI_0 (l : List Nat) : gI l 0 = [] := by rw [gI]
theorem gI_s (l : List Nat) (k : Nat) : gI l (k + 1) = gI l k ++ [((l.getD k 0 : Nat) : Int)] := by rw [gI]
set_option maxRecDepth 100000 in
theorem dw1 (l r : List UInt8) (hl : l.length = 64) (hr : r.length = 72) (x : Int) : Con Try.prog 5 #[i6 1, .agg (rB 64 l).toArray, i6 x, .agg (rB 72 r).toArray] [] [] (fun _ => []) (fun _ => .bool true) := by
 have hwle := wl1_le r x
 have hgle := gI_len (wl1 r x) (wl1 r x).length
 have hwIl := fun c => wrI_le (fun z => wrG 9 (encT 9 (eW1 l x false) 8) r z 72) c
 have hf := Try.func5
 have hE := enters_of hf (by kernel_rfl) rfl
 refine fE hf (fun w cs => ?_) hE
 refine rr (fun _ => []) (fun q1 => [(5, pt ((q1 0).blk 0) 0), (7, pt ((q1 1).blk 0) 0), (8, .bool false)]) [] (fun q1 L => L ++ [ob ((q1 0).blk 0) (rB 64 l).toArray 48, ob ((q1 1).blk 0) (rB 72 r).toArray 50]) fun q1 => ?_
 refine r0 [(0, .c [] [] (tanch))] [(20, .bool false)] [] ?_
 refine cF _ rfl ?_
 refine r0 [(3, .d), (4, .d)] [(26, .bool false)] [] ?_
 refine cF _ rfl ?_
 refine rr (fun _ => [(0, .c [] [2, 3, 4, 5, 6] (xcnew))]) (fun q4 => [(9, pt (((q4 0).blk 0)) 0)]) [] (fun q4 L => L ++ [ob ((q4 0).blk 0) #[pt (((q4 0).blk 1)) 0, pt (((q4 0).blk 2)) 0] 83, ob ((q4 0).blk 1) (rB 74 (hcD 10) ++ rI 256 (htD 10)).toArray 117, ob ((q4 0).blk 2) #[pt (((q4 0).blk 3)) 0, ((q4 0).val 0)] 128, ob ((q4 0).blk 3) (rB 255 exB ++ rN 256 logL).toArray 131, slB ((q4 0).val 0) genL]) fun q4 => ?_
 refine rr (fun _ => [(2, .l 0), (4, .c [2, 3] [] (xEnc1 ((q4 0).blk 0) ((q4 0).blk 1) ((q4 0).blk 2) l (by first | rfl | (simp only [List.length_set, List.length_append, List.length_replicate, List.length_cons, List.length_nil, List.length_map, List.length_range, List.length_take, List.length_drop, enc1_len, xDec1_len, hl, hr]; done) | (simp only [List.length_set, List.length_append, List.length_replicate, List.length_cons, List.length_nil, List.length_map, List.length_range, List.length_take, List.length_drop, enc1_len, xDec1_len, hl, hr]; omega)) x false)), (6, .s 7)]) (fun q5 => [(10, pt ((q5 5).blk 0) 0)]) [] (fun q5 L => L ++ [ob ((q5 5).blk 0) (rB 72 (encT 9 (eW1 l x false) 8)).toArray 50]) fun q5 => ?_
 refine rr (fun _ => [(0, .v (pt (((q4 0).blk 0)) 0)), (1, .v (i6 1)), (2, .m (ls 1 (rB 72 r))), (3, .v (i6 x)), (4, .c [2, 3] [] (xDec1 ((q4 0).blk 0) ((q4 0).blk 1) ((q4 0).blk 2) r (by first | rfl | (simp only [List.length_set, List.length_append, List.length_replicate, List.length_cons, List.length_nil, List.length_map, List.length_range, List.length_take, List.length_drop, enc1_len, xDec1_len, hl, hr]; done) | (simp only [List.length_set, List.length_append, List.length_replicate, List.length_cons, List.length_nil, List.length_map, List.length_range, List.length_take, List.length_drop, enc1_len, xDec1_len, hl, hr]; omega)) x)), (5, .v (.tuple #[.agg (rB 64 (xDec1_0 r x)).toArray, .agg #[i6 (jK ((List.range 8).map (dK r x))), i6 (xjoin_0 ((List.range 8).map (dK r x)))]])), (6, .v (.agg (rB 64 (xDec1_0 r x)).toArray)), (7, .v (.agg #[i6 (jK ((List.range 8).map (dK r x))), i6 (xjoin_0 ((List.range 8).map (dK r x)))])), (8, .m (al 8)), (9, .m (al 9)), (10, .s 8), (11, .s 9)]) (fun q6 => [(12, pt ((q6 9).blk 0) 0)]) [] (fun q6 L => L ++ [ob ((q6 8).blk 0) (rB 64 (xDec1_0 r x)).toArray 48, ob ((q6 9).blk 0) #[i6 (jK ((List.range 8).map (dK r x))), i6 (xjoin_0 ((List.range 8).map (dK r x)))] 55]) fun q6 => ?_
 refine rr (fun _ => []) (fun q7 => [(13, pt ((q7 0).blk 0) 0)]) [] (fun q7 L => L ++ [ob ((q7 0).blk 0) #[.slice none 0 0] 22]) fun q7 => ?_
 refine rr (fun _ => [(3, .l 1), (4, .c [] [11, 12, 13, 14] (xWrong ((q4 0).blk 0) 1 x r (by first | rfl | (simp only [List.length_set, List.length_append, List.length_replicate, List.length_cons, List.length_nil, List.length_map, List.length_range, List.length_take, List.length_drop, enc1_len, xDec1_len, hl, hr]; done) | (simp only [List.length_set, List.length_append, List.length_replicate, List.length_cons, List.length_nil, List.length_map, List.length_range, List.length_take, List.length_drop, enc1_len, xDec1_len, hl, hr]; omega))))]) (fun q8 => [(45, .func (.func 43) #[] #[pt (((q8 4).blk 0)) 0, pt (((q8 4).blk 1)) 0, pt (((q8 4).blk 2)) 0, pt (((q8 4).blk 3)) 0])]) [] (fun q8 L => L ++ [ob ((q8 4).blk 0) #[pt (((q4 0).blk 0)) 0] 51, ob ((q8 4).blk 1) #[i6 1] 3, ob ((q8 4).blk 2) (rB 72 r).toArray 50, ob ((q8 4).blk 3) #[i6 x] 3]) fun q8 => ?_
 refine cz kI ?_
 refine cz kI ?_
 refine rf1 (encs := fun (z : Nat) => #[i6 (z : Int)]) (xs := wl1 r x) (KO := [[(((q8 4).blk 0), .cells #[pt (((q4 0).blk 0)) 0] 51 (0, 0))], [(((q8 4).blk 1), .cells #[i6 1] 3 (0, 0))], [(((q8 4).blk 2), .cells (rB 72 r).toArray 50 (0, 0))], [(((q8 4).blk 3), .cells #[i6 x] 3 (0, 0))], [(((q4 0).blk 0), .cells #[pt (((q4 0).blk 1)) 0, pt (((q4 0).blk 2)) 0] 83 (0, 0))], [(((q4 0).blk 1), .cells (rB 74 (hcD 10) ++ rI 256 (htD 10)).toArray 117 (0, 0))]]) (xWr1_it ((q4 0).blk 0) ((q4 0).blk 1) ((q4 0).blk 2) ((q8 4).blk 0) ((q8 4).blk 1) ((q8 4).blk 2) ((q8 4).blk 3) r (by first | rfl | (simp only [List.length_set, List.length_append, List.length_replicate, List.length_cons, List.length_nil, List.length_map, List.length_range, List.length_take, List.length_drop, enc1_len, xDec1_len, hl, hr]; done) | (simp only [List.length_set, List.length_append, List.length_replicate, List.length_cons, List.length_nil, List.length_map, List.length_range, List.length_take, List.length_drop, enc1_len, xDec1_len, hl, hr]; omega)) x) (enters_of Try.func43 (by kernel_rfl) rfl) (fun k _ => k ≤ (wl1 r x).length) (fun k vC13_0 L => (L.set 10 (ob ((q7 0).blk 0) #[vC13_0] 22)).set 16 (slI vC13_0 (gI (wl1 r x) k))) [11, 12, 13, 14, 2, 3] (.slice none 0 0) (by omega) (by rw [gI_0]; kernel_rfl) (fun lR k vC13_0 xE R1 W1 hxE hk10 => ?_) (fun D9 vC13_0 hk10 => ?_)
 ·obtain ⟨hkb11, rfl⟩ := list_some 0 hxE
  have hgk := gI_len (wl1 r x) k
  refine r0 [] [(14, i6 (((wl1 r x).getD k 0 : Nat) : Int))] [] ?_
  refine ag [11, 12, 13, 14, 2, 3] (fun R2 W2 => ?_)
  refine rr (fun q13 => [(0, .l 10), (2, .m (bs 17 1)), (3, apS1 kI (vC13_0) (gI (wl1 r x) k) 16 17 ([(((wl1 r x).getD k 0 : Nat) : Int)])), (4, .m (stV 10 16 (slI ((q13 3).val 0) ((gI (wl1 r x) k) ++ ([(((wl1 r x).getD k 0 : Nat) : Int)]))) ((q13 3).val 0) fun bs h => SlE.one ((fun _ h => h) bs h)))]) (fun _ => []) [] (fun q13 L => (L.set 10 (ob ((q7 0).blk 0) #[(q13 3).val 0] 22)).set 16 (slI ((q13 3).val 0) ((gI (wl1 r x) k) ++ ([(((wl1 r x).getD k 0 : Nat) : Int)]))) ++ [ob ((q13 2).blk 0) #[i6 (((wl1 r x).getD k 0 : Nat) : Int)] 3]) fun q13 => ?_
  exact ne _ ⟨(q13 3).val 0, (by omega), rfl⟩ [0, 1, 2, 3, 4, 5, 6, 7, 8, 9, 10, 11, 12, 13, 14, 15, 16] (by rw [gI_s]; kernel_rfl)
 refine r0 [(1, .l 9)] [(53, .bool ((jK ((List.range 8).map (dK r x))) != 1))] [] ?_
 refine cNe (jK ((List.range 8).map (dK r x))) 1 (fun h15 dh15 => ?_) fun h15 dh15 => ?_
 ·refine r0 [(0, .l 10), (1, lnS kI vC13_0 (gI (wl1 r x) ((wl1 r x).length)) 16)] [(8, .bool ((((gI (wl1 r x) ((wl1 r x).length)).length : Nat) : Int) == 0))] [8] ?_
  exact lfV (.bool ((((gI (wl1 r x) ((wl1 r x).length)).length : Nat) : Int) == 0)) Env.zero (by first | (rw [hgle, ← wl1_n (by assumption)]; rfl) | (rw [hgle, decide_eq_true (by have := wl1_far hr (by assumption); omega)]) | (rw [hgle, hnear]; simp)) [] [] []
 refine r0 [(1, .l 7), (2, .l 1), (3, .c [] [] (xrexp1 (encT 9 (eW1 l x false) 8) r (by first | rfl | (simp only [List.length_set, List.length_append, List.length_replicate, List.length_cons, List.length_nil, List.length_map, List.length_range, List.length_take, List.length_drop, enc1_len, xDec1_len, hl, hr]; done) | (simp only [List.length_set, List.length_append, List.length_replicate, List.length_cons, List.length_nil, List.length_map, List.length_range, List.length_take, List.length_drop, enc1_len, xDec1_len, hl, hr]; omega)) (by first | rfl | (simp only [List.length_set, List.length_append, List.length_replicate, List.length_cons, List.length_nil, List.length_map, List.length_range, List.length_take, List.length_drop, enc1_len, xDec1_len, hl, hr]; done) | (simp only [List.length_set, List.length_append, List.length_replicate, List.length_cons, List.length_nil, List.length_map, List.length_range, List.length_take, List.length_drop, enc1_len, xDec1_len, hl, hr]; omega))))] [(61, .bool (decide (1 < ((expo 1 (encT 9 (eW1 l x false) 8) r : Nat) : Int))))] [] ?_
 refine cLt 1 ((expo 1 (encT 9 (eW1 l x false) 8) r : Nat) : Int) (fun h18 dh18 => ?_) fun h18 dh18 => ?_
 ·refine r0 [(0, .l 10), (1, lnS kI vC13_0 (gI (wl1 r x) ((wl1 r x).length)) 16)] [(8, .bool (decide (0 < (((gI (wl1 r x) ((wl1 r x).length)).length : Nat) : Int))))] [8] ?_
  exact lfV (.bool (decide (0 < (((gI (wl1 r x) ((wl1 r x).length)).length : Nat) : Int)))) Env.zero (by first | (rw [hgle, ← wl1_n (by assumption)]; rfl) | (rw [hgle, decide_eq_true (by have := wl1_far hr (by assumption); omega)]) | (rw [hgle, hnear]; simp)) [] [] []
 have hnear := wl1_near (x := x) hl hr (by assumption) (by omega)
 refine r0 [] [(15, i6 0)] [] ?_
 refine r0 [(1, .c [] [] (xrch1))] [(66, i6 9), (67, i6 0)] [] ?_
 refine lq (fun c => c ≤ 9) (fun c => [(67, i6 (c : Int)), (15, i6 (((wrI (fun z => wrG 9 (encT 9 (eW1 l x false) 8) r z 72) c).length : Nat) : Int))]) (fun _ L => L) (fun c => 9 - c) 0 (by omega) (by rw [wrI_0]; kernel_rfl) (by kernel_rfl) (fun c hk22 => ?_)
 have hwc := hwIl c
 refine r0 [] [(68, .bool (decide ((c : Int) < 9)))] [] ?_
 refine cLt (c : Int) 9 (fun h24 dh24 => ?_) fun h24 dh24 => ?_
 ·refine r0 [] [(16, i6 (c : Int))] [] ?_
  refine r0 [] [(17, .bool false)] [] ?_
  refine r0 [] [(70, i6 0)] [] ?_
  refine lq (fun i => i ≤ 72) (fun i => [(70, i6 (i : Int)), (17, .bool (wrG 9 (encT 9 (eW1 l x false) 8) r c i))]) (fun _ L => L) (fun i => 72 - i) 0 (by omega) (by rw [wrG_0]; kernel_rfl) (by kernel_rfl) (fun i hk28 => ?_)
  refine r0 [] [(71, .bool (decide ((i : Int) < 72)))] [] ?_
  refine cLt (i : Int) 72 (fun h30 dh30 => ?_) fun h30 dh30 => ?_
  ·refine r0 [] [(18, i6 (i : Int))] [] ?_
   refine r0 [(0, .v (.bool (wrG 9 (encT 9 (eW1 l x false) 8) r c i))), (1, .v (.bool (wrG 9 (encT 9 (eW1 l x false) 8) r c i))), (2, .v (i6 (i : Int))), (3, .v (i6 1)), (4, .c [] [] (xrch1)), (5, .t (tb (a := i6 (i : Int)) (b := i6 9) fun _ _ _ _ => bin_rem_i64 (a := i) (d := 9) (by decide))), (6, .v (i6 (c : Int))), (7, .v (.bool (((i % 9 : Nat) : Int) == (c : Int)))), (8, .v (.bool (((i % 9 : Nat) : Int) == (c : Int)))), (9, .v (i6 (i : Int))), (10, iA 50 .i64 ((q5 5).blk 0) 0 72 1 i), (11, rD 7 ((q5 5).blk 0) i 50 (rB 72 (encT 9 (eW1 l x false) 8)) (rB_get (by omega))), (12, .v (i6 (i : Int))), (13, iA 50 .i64 ((q1 1).blk 0) 0 72 1 i), (14, rD 1 ((q1 1).blk 0) i 50 (rB 72 r) (rB_get (by omega))), (15, .v (.bool ((((encT 9 (eW1 l x false) 8).getD i 0).toNat : Int) != ((r.getD i 0).toNat : Int)))), (18, .v (.bool ((wrG 9 (encT 9 (eW1 l x false) 8) r c i) || ((((i % 9 : Nat) : Int) == (c : Int)) && ((((encT 9 (eW1 l x false) 8).getD i 0).toNat : Int) != ((r.getD i 0).toNat : Int))))))] [(17, .bool ((wrG 9 (encT 9 (eW1 l x false) 8) r c i) || ((((i % 9 : Nat) : Int) == (c : Int)) && ((((encT 9 (eW1 l x false) 8).getD i 0).toNat : Int) != ((r.getD i 0).toNat : Int)))))] [17] ?_
   refine r0 [(0, ad i 1)] [(70, i6 ((i + 1 : Nat) : Int))] [70] ?_
   exact le (i + 1) (by omega) (by omega) (by rw [wrG_s]; kernel_rfl) [0, 1, 2, 3, 4, 5, 6, 7, 8, 9, 10, 11, 12, 13, 14, 15, 16] (by kernel_rfl)
  obtain rfl : i = 72 := by omega
  refine lx ?_
  refine r0 [] [(93, .bool (!(wrG 9 (encT 9 (eW1 l x false) 8) r c 72)))] [] ?_
  refine cB (!(wrG 9 (encT 9 (eW1 l x false) 8) r c 72)) (fun h35 => ?_) fun h35 => ?_
  ·refine r0 [(0, ad c 1)] [(67, i6 ((c + 1 : Nat) : Int))] [67] ?_
   exact le (c + 1) (by omega) (by omega) (by (first | rw [← wi_tn (f := (fun z => wrG 9 (encT 9 (eW1 l x false) 8) r z 72)) (by assumption)] | rw [← wi_fn (f := (fun z => wrG 9 (encT 9 (eW1 l x false) 8) r z 72)) (by assumption)]); kernel_rfl) [0, 1, 2, 3, 4, 5, 6, 7, 8, 9, 10, 11, 12, 13, 14, 15, 16] (by kernel_rfl)
  have hat := got_at (f := (fun z => wrG 9 (encT 9 (eW1 l x false) 8) r z 72)) hnear (show c < 9 by omega) (by assumption)
  refine r0 [(0, .v (i6 (((wrI (fun z => wrG 9 (encT 9 (eW1 l x false) 8) r z 72) c).length : Nat) : Int))), (1, .m (ld 10 (vC13_0))), (2, lnS kI vC13_0 (gI (wl1 r x) ((wl1 r x).length)) 16), (3, .t (tk (show Value.bool (decide ((((gI (wl1 r x) ((wl1 r x).length)).length : Nat) : Int) ≤ (((wrI (fun z => wrG 9 (encT 9 (eW1 l x false) 8) r z 72) c).length : Nat) : Int))) = .bool false from congrArg Value.bool (by rw [decide_eq_false (by omega)])))), (4, .v (.bool false)), (5, .m (ld 10 (vC13_0))), (6, .v (i6 (((wrI (fun z => wrG 9 (encT 9 (eW1 l x false) 8) r z 72) c).length : Nat) : Int))), (7, ixS kI vC13_0 (gI (wl1 r x) ((wl1 r x).length)) 16 ((wrI (fun z => wrG 9 (encT 9 (eW1 l x false) 8) r z 72) c).length)), (8, gtS kI vC13_0 (gI (wl1 r x) ((wl1 r x).length)) 16 ((wrI (fun z => wrG 9 (encT 9 (eW1 l x false) 8) r z 72) c).length) 0), (9, .v (i6 (c : Int))), (10, .v (.bool (((gI (wl1 r x) ((wl1 r x).length)).getD ((wrI (fun z => wrG 9 (encT 9 (eW1 l x false) 8) r z 72) c).length) 0) != (c : Int))))] [(105, .bool (((gI (wl1 r x) ((wl1 r x).length)).getD ((wrI (fun z => wrG 9 (encT 9 (eW1 l x false) 8) r z 72) c).length) 0) != (c : Int)))] [] ?_
  have h38 : (((gI (wl1 r x) ((wl1 r x).length)).getD ((wrI (fun z => wrG 9 (encT 9 (eW1 l x false) 8) r z 72) c).length) 0) != (c : Int)) = false := by rw [hat.2]; simp
  refine cF (((gI (wl1 r x) ((wl1 r x).length)).getD ((wrI (fun z => wrG 9 (encT 9 (eW1 l x false) 8) r z 72) c).length) 0) != (c : Int)) h38 ?_
  refine r0 [(1, ad ((wrI (fun z => wrG 9 (encT 9 (eW1 l x false) 8) r z 72) c).length) 1)] [(15, i6 ((((wrI (fun z => wrG 9 (encT 9 (eW1 l x false) 8) r z 72) c).length) + 1 : Nat) : Int))] [15] ?_
  refine r0 [(0, ad c 1)] [(67, i6 ((c + 1 : Nat) : Int))] [67] ?_
  exact le (c + 1) (by omega) (by omega) (by (first | rw [← wi_tn (f := (fun z => wrG 9 (encT 9 (eW1 l x false) 8) r z 72)) (by assumption)] | rw [← wi_fn (f := (fun z => wrG 9 (encT 9 (eW1 l x false) 8) r z 72)) (by assumption)]); kernel_rfl) [0, 1, 2, 3, 4, 5, 6, 7, 8, 9, 10, 11, 12, 13, 14, 15, 16] (by kernel_rfl)
 obtain rfl : c = 9 := by omega
 refine lx ?_
 refine r0 [(1, .l 10), (2, lnS kI vC13_0 (gI (wl1 r x) ((wl1 r x).length)) 16)] [(8, .bool ((((wrI (fun z => wrG 9 (encT 9 (eW1 l x false) 8) r z 72) 9).length : Nat) : Int) == (((gI (wl1 r x) ((wl1 r x).length)).length : Nat) : Int)))] [] ?_
 exact lfV (.bool ((((wrI (fun z => wrG 9 (encT 9 (eW1 l x false) 8) r z 72) 9).length : Nat) : Int) == (((gI (wl1 r x) ((wl1 r x).length)).length : Nat) : Int))) Env.zero (by first | (rw [hgle, ← wl1_n (by assumption)]; rfl) | (rw [hgle, decide_eq_true (by have := wl1_far hr (by assumption); omega)]) | (rw [hgle, hnear]; simp)) [] [] []
set_option maxRecDepth 100000 in
theorem dw2 (l r : List UInt8) (hl : l.length = 64) (hr : r.length = 72) (x : Int) (h0 : -9223372036854775808 ≤ x) (h1 : x ≤ 9223372036854775807) : Con Try.prog 5 #[i6 2, .agg (rB 64 l).toArray, i6 x, .agg (rB 72 r).toArray] [] [] (fun _ => []) (fun _ => .bool true) := by
 have hwle := wl2_le r x
 have hgle := gI_len (wl2 r x) (wl2 r x).length
 have hwIl := fun c => wrI_le (fun z => wrG 36 (encT 36 (eW2 l x false) 2) r z 72) c
 have HDX := xDec2_len hr x
 have HEX2 := enc2_len hl x false
 have hf := Try.func5
 have hE := enters_of hf (by kernel_rfl) rfl
 refine fE hf (fun w cs => ?_) hE
 refine rr (fun _ => []) (fun q1 => [(5, pt ((q1 0).blk 0) 0), (7, pt ((q1 1).blk 0) 0), (8, .bool false)]) [] (fun q1 L => L ++ [ob ((q1 0).blk 0) (rB 64 l).toArray 48, ob ((q1 1).blk 0) (rB 72 r).toArray 50]) fun q1 => ?_
 refine r0 [(0, .c [] [] (tanch))] [(20, .bool false)] [] ?_
 refine cF _ rfl ?_
 refine r0 [] [(26, .bool false)] [] ?_
 refine cF _ rfl ?_
 refine rr (fun _ => [(0, .c [] [2, 3, 4, 5, 6] (xcnew))]) (fun q4 => [(9, pt (((q4 0).blk 0)) 0)]) [] (fun q4 L => L ++ [ob ((q4 0).blk 0) #[pt (((q4 0).blk 1)) 0, pt (((q4 0).blk 2)) 0] 83, ob ((q4 0).blk 1) (rB 74 (hcD 10) ++ rI 256 (htD 10)).toArray 117, ob ((q4 0).blk 2) #[pt (((q4 0).blk 3)) 0, ((q4 0).val 0)] 128, ob ((q4 0).blk 3) (rB 255 exB ++ rN 256 logL).toArray 131, slB ((q4 0).val 0) genL]) fun q4 => ?_
 refine rr (fun _ => [(2, .l 0), (4, .c [2, 4, 5, 6] [] (Con.at (rd' := [ob ((q4 0).blk 0) #[pt (((q4 0).blk 1)) 0, pt (((q4 0).blk 2)) 0] 83, ob ((q4 0).blk 2) #[pt (((q4 0).blk 3)) 0, ((q4 0).val 0)] 128, ob ((q4 0).blk 3) (rB 255 exB ++ rN 256 logL).toArray 131, slB ((q4 0).val 0) genL]) (xEnc2 ((q4 0).blk 0) ((q4 0).blk 1) ((q4 0).blk 2) ((q4 0).blk 3) ((q4 0).val 0) l (by first | rfl | (simp only [List.length_set, List.length_append, List.length_replicate, List.length_cons, List.length_nil, List.length_map, List.length_range, List.length_take, List.length_drop, HEX2, HDX, hl, hr]; done) | (simp only [List.length_set, List.length_append, List.length_replicate, List.length_cons, List.length_nil, List.length_map, List.length_range, List.length_take, List.length_drop, HEX2, HDX, hl, hr]; omega)) x (by omega) (by omega) false) (atS (atS (atS (atW (fun _ h => SlE.sq h) (fun _ h => h))))))), (6, .s 7)]) (fun q5 => [(10, pt ((q5 5).blk 0) 0)]) [] (fun q5 L => L ++ [ob ((q5 5).blk 0) (rB 72 (encT 36 (eW2 l x false) 2)).toArray 50]) fun q5 => ?_
 refine rr (fun _ => [(0, .v (pt (((q4 0).blk 0)) 0)), (1, .v (i6 2)), (2, .m (ls 1 (rB 72 r))), (3, .v (i6 x)), (4, .c [2, 4, 5, 6] [] (Con.at (rd' := [ob ((q4 0).blk 0) #[pt (((q4 0).blk 1)) 0, pt (((q4 0).blk 2)) 0] 83, ob ((q4 0).blk 2) #[pt (((q4 0).blk 3)) 0, ((q4 0).val 0)] 128, ob ((q4 0).blk 3) (rB 255 exB ++ rN 256 logL).toArray 131, slB ((q4 0).val 0) genL]) (xDec2 ((q4 0).blk 0) ((q4 0).blk 1) ((q4 0).blk 2) ((q4 0).blk 3) ((q4 0).val 0) r (by first | rfl | (simp only [List.length_set, List.length_append, List.length_replicate, List.length_cons, List.length_nil, List.length_map, List.length_range, List.length_take, List.length_drop, HEX2, HDX, hl, hr]; done) | (simp only [List.length_set, List.length_append, List.length_replicate, List.length_cons, List.length_nil, List.length_map, List.length_range, List.length_take, List.length_drop, HEX2, HDX, hl, hr]; omega)) x (by omega) (by omega)) (atS (atS (atS (atW (fun _ h => SlE.sq h) (fun _ h => h))))))), (5, .v (.tuple #[.agg (rB 64 (xDec2_0 r x)).toArray, .agg #[i6 (jK ((List.range 2).map (cK r x))), i6 (xjoin_0 ((List.range 2).map (cK r x)))]])), (6, .v (.agg (rB 64 (xDec2_0 r x)).toArray)), (7, .v (.agg #[i6 (jK ((List.range 2).map (cK r x))), i6 (xjoin_0 ((List.range 2).map (cK r x)))])), (8, .m (al 8)), (9, .m (al 9)), (10, .s 8), (11, .s 9)]) (fun q6 => [(12, pt ((q6 9).blk 0) 0)]) [] (fun q6 L => L ++ [ob ((q6 8).blk 0) (rB 64 (xDec2_0 r x)).toArray 48, ob ((q6 9).blk 0) #[i6 (jK ((List.range 2).map (cK r x))), i6 (xjoin_0 ((List.range 2).map (cK r x)))] 55]) fun q6 => ?_
 refine rr (fun _ => []) (fun q7 => [(13, pt ((q7 0).blk 0) 0)]) [] (fun q7 L => L ++ [ob ((q7 0).blk 0) #[.slice none 0 0] 22]) fun q7 => ?_
 refine rr (fun _ => [(3, .l 1), (4, .c [] [11, 12, 13, 14] (xWrong ((q4 0).blk 0) 2 x r (by first | rfl | (simp only [List.length_set, List.length_append, List.length_replicate, List.length_cons, List.length_nil, List.length_map, List.length_range, List.length_take, List.length_drop, HEX2, HDX, hl, hr]; done) | (simp only [List.length_set, List.length_append, List.length_replicate, List.length_cons, List.length_nil, List.length_map, List.length_range, List.length_take, List.length_drop, HEX2, HDX, hl, hr]; omega))))]) (fun q8 => [(45, .func (.func 43) #[] #[pt (((q8 4).blk 0)) 0, pt (((q8 4).blk 1)) 0, pt (((q8 4).blk 2)) 0, pt (((q8 4).blk 3)) 0])]) [] (fun q8 L => L ++ [ob ((q8 4).blk 0) #[pt (((q4 0).blk 0)) 0] 51, ob ((q8 4).blk 1) #[i6 2] 3, ob ((q8 4).blk 2) (rB 72 r).toArray 50, ob ((q8 4).blk 3) #[i6 x] 3]) fun q8 => ?_
 refine cz kI ?_
 refine ck 6 (SlE eB ([u1 0]) 5 ((q4 0).val 0) genL) (fun bK9 hK10 => ?_)
 refine cz kI ?_
 refine rf1 (encs := fun (z : Nat) => #[i6 (z : Int)]) (xs := wl2 r x) (KO := [[(((q8 4).blk 0), .cells #[pt (((q4 0).blk 0)) 0] 51 (0, 0))], [(((q8 4).blk 1), .cells #[i6 2] 3 (0, 0))], [(((q8 4).blk 2), .cells (rB 72 r).toArray 50 (0, 0))], [(((q8 4).blk 3), .cells #[i6 x] 3 (0, 0))], [(((q4 0).blk 0), .cells #[pt (((q4 0).blk 1)) 0, pt (((q4 0).blk 2)) 0] 83 (0, 0))], [(((q4 0).blk 2), .cells #[pt (((q4 0).blk 3)) 0, ((q4 0).val 0)] 128 (0, 0))], [(((q4 0).blk 3), .cells (rB 255 exB ++ rN 256 logL).toArray 131 (0, 0))], bK9]) (xWr2_it ((q4 0).blk 0) ((q4 0).blk 1) ((q4 0).blk 2) ((q4 0).blk 3) ((q8 4).blk 0) ((q8 4).blk 1) ((q8 4).blk 2) ((q8 4).blk 3) ((q4 0).val 0) bK9 (SlE.sq hK10) r (by first | rfl | (simp only [List.length_set, List.length_append, List.length_replicate, List.length_cons, List.length_nil, List.length_map, List.length_range, List.length_take, List.length_drop, HEX2, HDX, hl, hr]; done) | (simp only [List.length_set, List.length_append, List.length_replicate, List.length_cons, List.length_nil, List.length_map, List.length_range, List.length_take, List.length_drop, HEX2, HDX, hl, hr]; omega)) x (by omega) (by omega)) (enters_of Try.func43 (by kernel_rfl) rfl) (fun k _ => k ≤ (wl2 r x).length) (fun k vC13_0 L => (L.set 10 (ob ((q7 0).blk 0) #[vC13_0] 22)).set 16 (slI vC13_0 (gI (wl2 r x) k))) [11, 12, 13, 14, 2, 4, 5, 6] (.slice none 0 0) (by omega) (by rw [gI_0]; kernel_rfl) (fun lR k vC13_0 xE R1 W1 hxE hk12 => ?_) (fun D11 vC13_0 hk12 => ?_)
 ·obtain ⟨hkb13, rfl⟩ := list_some 0 hxE
  have hgk := gI_len (wl2 r x) k
  refine r0 [] [(14, i6 (((wl2 r x).getD k 0 : Nat) : Int))] [] ?_
  refine ag [11, 12, 13, 14, 2, 4, 5, 6] (fun R2 W2 => ?_)
  refine rr (fun q15 => [(0, .l 10), (2, .m (bs 17 1)), (3, apS1 kI (vC13_0) (gI (wl2 r x) k) 16 17 ([(((wl2 r x).getD k 0 : Nat) : Int)])), (4, .m (stV 10 16 (slI ((q15 3).val 0) ((gI (wl2 r x) k) ++ ([(((wl2 r x).getD k 0 : Nat) : Int)]))) ((q15 3).val 0) fun bs h => SlE.one ((fun _ h => h) bs h)))]) (fun _ => []) [] (fun q15 L => (L.set 10 (ob ((q7 0).blk 0) #[(q15 3).val 0] 22)).set 16 (slI ((q15 3).val 0) ((gI (wl2 r x) k) ++ ([(((wl2 r x).getD k 0 : Nat) : Int)]))) ++ [ob ((q15 2).blk 0) #[i6 (((wl2 r x).getD k 0 : Nat) : Int)] 3]) fun q15 => ?_
  exact ne _ ⟨(q15 3).val 0, (by omega), rfl⟩ [0, 1, 2, 3, 4, 5, 6, 7, 8, 9, 10, 11, 12, 13, 14, 15, 16] (by rw [gI_s]; kernel_rfl)
 refine cw 6 (.c bK9) (slB ((q4 0).val 0) genL) (cP hK10) ?_
 refine r0 [(1, .l 9)] [(53, .bool ((jK ((List.range 2).map (cK r x))) != 1))] [] ?_
 refine cNe (jK ((List.range 2).map (cK r x))) 1 (fun h17 dh17 => ?_) fun h17 dh17 => ?_
 ·refine r0 [(0, .l 10), (1, lnS kI vC13_0 (gI (wl2 r x) ((wl2 r x).length)) 16)] [(8, .bool ((((gI (wl2 r x) ((wl2 r x).length)).length : Nat) : Int) == 0))] [8] ?_
  exact lfV (.bool ((((gI (wl2 r x) ((wl2 r x).length)).length : Nat) : Int) == 0)) Env.zero (by first | (rw [hgle, ← wl2_n (by assumption)]; rfl) | (rw [hgle, decide_eq_true (by have := wl2_far hr (by assumption); omega)]) | (rw [hgle, hnear]; simp)) [] [] []
 refine r0 [(1, .l 7), (2, .l 1), (3, .c [] [] (xrexp2 (encT 36 (eW2 l x false) 2) r (by first | rfl | (simp only [List.length_set, List.length_append, List.length_replicate, List.length_cons, List.length_nil, List.length_map, List.length_range, List.length_take, List.length_drop, HEX2, HDX, hl, hr]; done) | (simp only [List.length_set, List.length_append, List.length_replicate, List.length_cons, List.length_nil, List.length_map, List.length_range, List.length_take, List.length_drop, HEX2, HDX, hl, hr]; omega)) (by first | rfl | (simp only [List.length_set, List.length_append, List.length_replicate, List.length_cons, List.length_nil, List.length_map, List.length_range, List.length_take, List.length_drop, HEX2, HDX, hl, hr]; done) | (simp only [List.length_set, List.length_append, List.length_replicate, List.length_cons, List.length_nil, List.length_map, List.length_range, List.length_take, List.length_drop, HEX2, HDX, hl, hr]; omega))))] [(61, .bool (decide (1 < ((expo 2 (encT 36 (eW2 l x false) 2) r : Nat) : Int))))] [] ?_
 refine cLt 1 ((expo 2 (encT 36 (eW2 l x false) 2) r : Nat) : Int) (fun h20 dh20 => ?_) fun h20 dh20 => ?_
 ·refine r0 [(0, .l 10), (1, lnS kI vC13_0 (gI (wl2 r x) ((wl2 r x).length)) 16)] [(8, .bool (decide (0 < (((gI (wl2 r x) ((wl2 r x).length)).length : Nat) : Int))))] [8] ?_
  exact lfV (.bool (decide (0 < (((gI (wl2 r x) ((wl2 r x).length)).length : Nat) : Int)))) Env.zero (by first | (rw [hgle, ← wl2_n (by assumption)]; rfl) | (rw [hgle, decide_eq_true (by have := wl2_far hr (by assumption); omega)]) | (rw [hgle, hnear]; simp)) [] [] []
 have hnear := wl2_near (x := x) hl hr (by assumption) (by omega)
 refine r0 [] [(15, i6 0)] [] ?_
 refine r0 [(1, .c [] [] (xrch2))] [(66, i6 36), (67, i6 0)] [] ?_
 refine lq (fun c => c ≤ 36) (fun c => [(67, i6 (c : Int)), (15, i6 (((wrI (fun z => wrG 36 (encT 36 (eW2 l x false) 2) r z 72) c).length : Nat) : Int))]) (fun _ L => L) (fun c => 36 - c) 0 (by omega) (by rw [wrI_0]; kernel_rfl) (by kernel_rfl) (fun c hk24 => ?_)
 have hwc := hwIl c
 refine r0 [] [(68, .bool (decide ((c : Int) < 36)))] [] ?_
 refine cLt (c : Int) 36 (fun h26 dh26 => ?_) fun h26 dh26 => ?_
 ·refine r0 [] [(16, i6 (c : Int))] [] ?_
  refine r0 [] [(17, .bool false)] [] ?_
  refine r0 [] [(70, i6 0)] [] ?_
  refine lq (fun i => i ≤ 72) (fun i => [(70, i6 (i : Int)), (17, .bool (wrG 36 (encT 36 (eW2 l x false) 2) r c i))]) (fun _ L => L) (fun i => 72 - i) 0 (by omega) (by rw [wrG_0]; kernel_rfl) (by kernel_rfl) (fun i hk30 => ?_)
  refine r0 [] [(71, .bool (decide ((i : Int) < 72)))] [] ?_
  refine cLt (i : Int) 72 (fun h32 dh32 => ?_) fun h32 dh32 => ?_
  ·refine r0 [] [(18, i6 (i : Int))] [] ?_
   refine r0 [(0, .v (.bool (wrG 36 (encT 36 (eW2 l x false) 2) r c i))), (1, .v (.bool (wrG 36 (encT 36 (eW2 l x false) 2) r c i))), (2, .v (i6 (i : Int))), (3, .v (i6 2)), (4, .c [] [] (xrch2)), (5, .t (tb (a := i6 (i : Int)) (b := i6 36) fun _ _ _ _ => bin_rem_i64 (a := i) (d := 36) (by decide))), (6, .v (i6 (c : Int))), (7, .v (.bool (((i % 36 : Nat) : Int) == (c : Int)))), (8, .v (.bool (((i % 36 : Nat) : Int) == (c : Int)))), (9, .v (i6 (i : Int))), (10, iA 50 .i64 ((q5 5).blk 0) 0 72 1 i), (11, rD 7 ((q5 5).blk 0) i 50 (rB 72 (encT 36 (eW2 l x false) 2)) (rB_get (by omega))), (12, .v (i6 (i : Int))), (13, iA 50 .i64 ((q1 1).blk 0) 0 72 1 i), (14, rD 1 ((q1 1).blk 0) i 50 (rB 72 r) (rB_get (by omega))), (15, .v (.bool ((((encT 36 (eW2 l x false) 2).getD i 0).toNat : Int) != ((r.getD i 0).toNat : Int)))), (18, .v (.bool ((wrG 36 (encT 36 (eW2 l x false) 2) r c i) || ((((i % 36 : Nat) : Int) == (c : Int)) && ((((encT 36 (eW2 l x false) 2).getD i 0).toNat : Int) != ((r.getD i 0).toNat : Int))))))] [(17, .bool ((wrG 36 (encT 36 (eW2 l x false) 2) r c i) || ((((i % 36 : Nat) : Int) == (c : Int)) && ((((encT 36 (eW2 l x false) 2).getD i 0).toNat : Int) != ((r.getD i 0).toNat : Int)))))] [17] ?_
   refine r0 [(0, ad i 1)] [(70, i6 ((i + 1 : Nat) : Int))] [70] ?_
   exact le (i + 1) (by omega) (by omega) (by rw [wrG_s]; kernel_rfl) [0, 1, 2, 3, 4, 5, 6, 7, 8, 9, 10, 11, 12, 13, 14, 15, 16] (by kernel_rfl)
  obtain rfl : i = 72 := by omega
  refine lx ?_
  refine r0 [] [(93, .bool (!(wrG 36 (encT 36 (eW2 l x false) 2) r c 72)))] [] ?_
  refine cB (!(wrG 36 (encT 36 (eW2 l x false) 2) r c 72)) (fun h37 => ?_) fun h37 => ?_
  ·refine r0 [(0, ad c 1)] [(67, i6 ((c + 1 : Nat) : Int))] [67] ?_
   exact le (c + 1) (by omega) (by omega) (by (first | rw [← wi_tn (f := (fun z => wrG 36 (encT 36 (eW2 l x false) 2) r z 72)) (by assumption)] | rw [← wi_fn (f := (fun z => wrG 36 (encT 36 (eW2 l x false) 2) r z 72)) (by assumption)]); kernel_rfl) [0, 1, 2, 3, 4, 5, 6, 7, 8, 9, 10, 11, 12, 13, 14, 15, 16] (by kernel_rfl)
  have hat := got_at (f := (fun z => wrG 36 (encT 36 (eW2 l x false) 2) r z 72)) hnear (show c < 36 by omega) (by assumption)
  refine r0 [(0, .v (i6 (((wrI (fun z => wrG 36 (encT 36 (eW2 l x false) 2) r z 72) c).length : Nat) : Int))), (1, .m (ld 10 (vC13_0))), (2, lnS kI vC13_0 (gI (wl2 r x) ((wl2 r x).length)) 16), (3, .t (tk (show Value.bool (decide ((((gI (wl2 r x) ((wl2 r x).length)).length : Nat) : Int) ≤ (((wrI (fun z => wrG 36 (encT 36 (eW2 l x false) 2) r z 72) c).length : Nat) : Int))) = .bool false from congrArg Value.bool (by rw [decide_eq_false (by omega)])))), (4, .v (.bool false)), (5, .m (ld 10 (vC13_0))), (6, .v (i6 (((wrI (fun z => wrG 36 (encT 36 (eW2 l x false) 2) r z 72) c).length : Nat) : Int))), (7, ixS kI vC13_0 (gI (wl2 r x) ((wl2 r x).length)) 16 ((wrI (fun z => wrG 36 (encT 36 (eW2 l x false) 2) r z 72) c).length)), (8, gtS kI vC13_0 (gI (wl2 r x) ((wl2 r x).length)) 16 ((wrI (fun z => wrG 36 (encT 36 (eW2 l x false) 2) r z 72) c).length) 0), (9, .v (i6 (c : Int))), (10, .v (.bool (((gI (wl2 r x) ((wl2 r x).length)).getD ((wrI (fun z => wrG 36 (encT 36 (eW2 l x false) 2) r z 72) c).length) 0) != (c : Int))))] [(105, .bool (((gI (wl2 r x) ((wl2 r x).length)).getD ((wrI (fun z => wrG 36 (encT 36 (eW2 l x false) 2) r z 72) c).length) 0) != (c : Int)))] [] ?_
  have h40 : (((gI (wl2 r x) ((wl2 r x).length)).getD ((wrI (fun z => wrG 36 (encT 36 (eW2 l x false) 2) r z 72) c).length) 0) != (c : Int)) = false := by rw [hat.2]; simp
  refine cF (((gI (wl2 r x) ((wl2 r x).length)).getD ((wrI (fun z => wrG 36 (encT 36 (eW2 l x false) 2) r z 72) c).length) 0) != (c : Int)) h40 ?_
  refine r0 [(1, ad ((wrI (fun z => wrG 36 (encT 36 (eW2 l x false) 2) r z 72) c).length) 1)] [(15, i6 ((((wrI (fun z => wrG 36 (encT 36 (eW2 l x false) 2) r z 72) c).length) + 1 : Nat) : Int))] [15] ?_
  refine r0 [(0, ad c 1)] [(67, i6 ((c + 1 : Nat) : Int))] [67] ?_
  exact le (c + 1) (by omega) (by omega) (by (first | rw [← wi_tn (f := (fun z => wrG 36 (encT 36 (eW2 l x false) 2) r z 72)) (by assumption)] | rw [← wi_fn (f := (fun z => wrG 36 (encT 36 (eW2 l x false) 2) r z 72)) (by assumption)]); kernel_rfl) [0, 1, 2, 3, 4, 5, 6, 7, 8, 9, 10, 11, 12, 13, 14, 15, 16] (by kernel_rfl)
 obtain rfl : c = 36 := by omega
 refine lx ?_
 refine r0 [(1, .l 10), (2, lnS kI vC13_0 (gI (wl2 r x) ((wl2 r x).length)) 16)] [(8, .bool ((((wrI (fun z => wrG 36 (encT 36 (eW2 l x false) 2) r z 72) 36).length : Nat) : Int) == (((gI (wl2 r x) ((wl2 r x).length)).length : Nat) : Int)))] [] ?_
 exact lfV (.bool ((((wrI (fun z => wrG 36 (encT 36 (eW2 l x false) 2) r z 72) 36).length : Nat) : Int) == (((gI (wl2 r x) ((wl2 r x).length)).length : Nat) : Int))) Env.zero (by first | (rw [hgle, ← wl2_n (by assumption)]; rfl) | (rw [hgle, decide_eq_true (by have := wl2_far hr (by assumption); omega)]) | (rw [hgle, hnear]; simp)) [] [] []
set_option maxRecDepth 100000 in
theorem dw0 (m x : Int) (l r : List UInt8) (hl : l.length = 64) (hr : r.length = 72) (h1 : m ≠ 1) (h2 : m ≠ 2) : Con Try.prog 5 #[i6 m, .agg (rB 64 l).toArray, i6 x, .agg (rB 72 r).toArray] [] [] (fun _ => []) (fun _ => .bool true) := by
 have hf := Try.func5
 have hE := enters_of hf (by kernel_rfl) rfl
 refine fE hf (fun w cs => ?_) hE
 refine rr (fun _ => []) (fun q1 => [(5, pt ((q1 0).blk 0) 0), (7, pt ((q1 1).blk 0) 0), (8, .bool false)]) [] (fun q1 L => L ++ [ob ((q1 0).blk 0) (rB 64 l).toArray 48, ob ((q1 1).blk 0) (rB 72 r).toArray 50]) fun q1 => ?_
 refine r0 [(0, .c [] [] (tanch))] [(20, .bool false)] [] ?_
 refine cF _ rfl ?_
 refine r0 [] [(26, .bool ((m != 1) && (m != 2)))] [] ?_
 have h4 : ((m != 1) && (m != 2)) = true := by rw [bne_iff_ne.2 h1, bne_iff_ne.2 h2]; rfl
 refine cT ((m != 1) && (m != 2)) h4 ?_
 refine r0 [] [(8, .bool true)] [8] ?_
 exact lfV (.bool true) Env.zero (by rfl) [] [] []
end Go.Proofs.Ytdglhppcfdpcaaa.E
namespace Go.Proofs.Ytdglhppcfdpcaaa
open Go Go.ChangeShapes Go.WideShapes Go.RowKit Go.Shelf
theorem DiagnoseWrong_any (m : Int) (l : List UInt8) (x : Int) (r : List UInt8) (hl : l.length = 64) (h0 : -9223372036854775808 ≤ x) (h1 : x ≤ 9223372036854775807) (hr : r.length = 72) (w : World) :
    Calls Try.prog 5 #[.int .i64 m, .agg (rawV l), .int .i64 x, .agg (rawV r)] w fun e w' => e = .returned (.bool true) ∧ Below w.heap.size w w' := by
  rw [← E.rB_raw hl, ← E.rB_raw hr]
  by_cases e1 : m = 1
  · subst e1; exact (E.dw1 l r hl hr x).below w
  · by_cases e2 : m = 2
    · subst e2; exact (E.dw2 l r hl hr x h0 h1).below w
    · exact (E.dw0 m x l r hl hr e1 e2).below w
end Go.Proofs.Ytdglhppcfdpcaaa
