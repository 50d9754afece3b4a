/- Which chips are wrong: walks. -/
import Derived.Test.YtdglhppcfdpcaaaHt
namespace Go.Proofs.Ytdglhppcfdpcaaa.E
open Go Go.RowKit Go.Shelf
set_option linter.unusedVariables false
set_option linter.unusedSimpArgs false
set_option maxRecDepth 100000 in
theorem xof1_it (b1 b2 c : Nat) (hc : c < 9) : IterE 5 Try.prog 93 #[pt b1 0, pt b2 0] (fun (x : Nat) => #[i6 (x : Int)]) ((List.range 8).map fun k => 9 * k + c) (List.flatten [[(b1, .cells #[i6 1] 3 (0, 0))], [(b2, .cells #[i6 (c : Int)] 3 (0, 0))]]) := by
 refine gi (KO := [[(b1, .cells #[i6 1] 3 (0, 0))], [(b2, .cells #[i6 (c : Int)] 3 (0, 0))]]) Try.func93 (fun lY JY JX WI RI hJ hY hI => ?_)
 refine r0 [(0, .l 0), (1, .c [] [] (xchips1))] [(4, i6 9)] [] ?_
 refine r0 [(0, .l 1), (3, .l 1)] [(14, .bool ((decide ((c : Int) < 0)) || (decide (9 ≤ (c : Int)))))] [] ?_
 have h3 : ((decide ((c : Int) < 0)) || (decide (9 ≤ (c : Int)))) = false := by rw [decide_eq_false (by omega), decide_eq_false (by omega)]; rfl
 refine cF ((decide ((c : Int) < 0)) || (decide (9 ≤ (c : Int)))) h3 ?_
 refine r0 [(0, .l 0), (1, .c [] [] (xwds1))] [(16, i6 8), (17, i6 0)] [] ?_
 refine lqI (fun k => k ≤ 8) (fun k => [(17, i6 (k : Int))]) (fun _ L => L) (fun k => 8 - k) (fun k => k) 0 (by omega) hI (by kernel_rfl) (by kernel_rfl) (fun k R7 W8 hk5 hI6 => ?_)
 refine r0 [] [(18, .bool (decide ((k : Int) < 8)))] [] ?_
 refine cLt (k : Int) 8 (fun h10 dh10 => ?_) fun h10 dh10 => ?_
 ·refine r0 [] [(5, i6 (k : Int))] [] ?_
  refine iy hJ hY hI6 6 (fun _ => [(3, ml 9 k), (4, .l 1), (5, ad (9 * k) c)]) (fun _ => [(20, .func (.yield lY) #[] #[]), (25, i6 (((9 * k) + c : Nat) : Int))]) [] (fun _ L => L) (fun _ => []) [0, 1] (range_map_get (by omega)) (fun q12 R13 W14 hI15 => ?_)
  refine cF _ rfl ?_
  refine r0 [(0, ad k 1)] [(17, i6 ((k + 1 : Nat) : Int))] [17] ?_
  exact leI (k + 1) (by omega) hI15 (by omega) (by kernel_rfl) [0, 1] (by kernel_rfl)
 obtain rfl : k = 8 := by omega
 refine lxI ?_
 exact ilN hJ hI6 (by rfl) [] [0, 1]
set_option maxRecDepth 100000 in
theorem xof2_it (b1 b2 c : Nat) (hc : c < 36) : IterE 5 Try.prog 93 #[pt b1 0, pt b2 0] (fun (x : Nat) => #[i6 (x : Int)]) ((List.range 2).map fun k => 36 * k + c) (List.flatten [[(b1, .cells #[i6 2] 3 (0, 0))], [(b2, .cells #[i6 (c : Int)] 3 (0, 0))]]) := by
 refine gi (KO := [[(b1, .cells #[i6 2] 3 (0, 0))], [(b2, .cells #[i6 (c : Int)] 3 (0, 0))]]) Try.func93 (fun lY JY JX WI RI hJ hY hI => ?_)
 refine r0 [(0, .l 0), (1, .c [] [] (xchips2))] [(4, i6 36)] [] ?_
 refine r0 [(0, .l 1), (3, .l 1)] [(14, .bool ((decide ((c : Int) < 0)) || (decide (36 ≤ (c : Int)))))] [] ?_
 have h3 : ((decide ((c : Int) < 0)) || (decide (36 ≤ (c : Int)))) = false := by rw [decide_eq_false (by omega), decide_eq_false (by omega)]; rfl
 refine cF ((decide ((c : Int) < 0)) || (decide (36 ≤ (c : Int)))) h3 ?_
 refine r0 [(0, .l 0), (1, .c [] [] (xwds2))] [(16, i6 2), (17, i6 0)] [] ?_
 refine lqI (fun k => k ≤ 2) (fun k => [(17, i6 (k : Int))]) (fun _ L => L) (fun k => 2 - k) (fun k => k) 0 (by omega) hI (by kernel_rfl) (by kernel_rfl) (fun k R7 W8 hk5 hI6 => ?_)
 refine r0 [] [(18, .bool (decide ((k : Int) < 2)))] [] ?_
 refine cLt (k : Int) 2 (fun h10 dh10 => ?_) fun h10 dh10 => ?_
 ·refine r0 [] [(5, i6 (k : Int))] [] ?_
  refine iy hJ hY hI6 6 (fun _ => [(3, ml 36 k), (4, .l 1), (5, ad (36 * k) c)]) (fun _ => [(20, .func (.yield lY) #[] #[]), (25, i6 (((36 * k) + c : Nat) : Int))]) [] (fun _ L => L) (fun _ => []) [0, 1] (range_map_get (by omega)) (fun q12 R13 W14 hI15 => ?_)
  refine cF _ rfl ?_
  refine r0 [(0, ad k 1)] [(17, i6 ((k + 1 : Nat) : Int))] [17] ?_
  exact leI (k + 1) (by omega) hI15 (by omega) (by kernel_rfl) [0, 1] (by kernel_rfl)
 obtain rfl : k = 2 := by omega
 refine lxI ?_
 exact ilN hJ hI6 (by rfl) [] [0, 1]
set_option maxRecDepth 100000 in
theorem xof (m : Int) (c : Nat) : Con Try.prog 73 #[i6 m, i6 (c : Int)] [] [] (fun E => [ob (E.blk 0) #[i6 m] 3, ob (E.blk 1) #[i6 (c : Int)] 3]) (fun E => .func (.func 93) #[] #[pt ((E.blk 0)) 0, pt ((E.blk 1)) 0]) := by
 have hf := Try.func73
 have hE := enters_of hf (by kernel_rfl) rfl
 refine fE hf (fun w cs => ?_) hE
 refine rr (fun _ => []) (fun q1 => [(2, pt ((q1 0).blk 0) 0), (3, pt ((q1 1).blk 0) 0), (4, .nilFunc)]) [] (fun q1 L => L ++ [ob ((q1 0).blk 0) #[i6 m] 3, ob ((q1 1).blk 0) #[i6 (c : Int)] 3]) fun q1 => ?_
 refine r0 [] [(4, .func (.func 93) #[] #[pt ((q1 0).blk 0) 0, pt ((q1 1).blk 0) 0])] [4] ?_
 exact lf (.l [(q1 0).blk 0, (q1 1).blk 0] [] []) [0, 1] [] []
/-- Is a chip's share of w words of n bytes another one? -/
def wrT (n w : Nat) (xs ys : List UInt8) (c : Nat) : Bool := (List.range w).any fun k => xs.getD (n * k + c) 0 != ys.getD (n * k + c) 0
theorem wr_s {n c k : Nat} {xs ys : List UInt8} (h : ∀ j, j < k → xs.getD (n * j + c) 0 = ys.getD (n * j + c) 0) (e : ((xs.getD (n * k + c) 0).toNat : Int) = ((ys.getD (n * k + c) 0).toNat : Int)) : ∀ j, j < k + 1 → xs.getD (n * j + c) 0 = ys.getD (n * j + c) 0 := by
  intro j hj
  by_cases h1 : j = k
  · subst h1; exact UInt8.toNat_inj.1 (by omega)
  · exact h j (by omega)
theorem wr_f {n w c : Nat} {xs ys : List UInt8} (h : ∀ j, j < w → xs.getD (n * j + c) 0 = ys.getD (n * j + c) 0) : wrT n w xs ys c = false := by
  unfold wrT
  rw [List.any_eq_false]
  intro k hk
  rw [h k (List.mem_range.1 hk)]; simp
theorem wr_t {n w c k : Nat} {xs ys : List UInt8} (hk : k < w) (h : ((xs.getD (n * k + c) 0).toNat : Int) ≠ ((ys.getD (n * k + c) 0).toNat : Int)) : wrT n w xs ys c = true := by
  unfold wrT
  rw [List.any_eq_true]
  refine ⟨k, List.mem_range.2 hk, ?_⟩
  rw [bne_iff_ne]
  intro e
  exact h (by rw [e])
set_option maxRecDepth 100000 in
theorem xwrong1 (u : Nat) (hc : u < 9) (xs ys : List UInt8) (hx : xs.length = 72) (hy : ys.length = 72) : Con Try.prog 45 #[i6 1, i6 (u : Int), .agg (rB 72 xs).toArray, .agg (rB 72 ys).toArray] [] [] (fun _ => []) (fun _ => .bool (wrT 9 8 xs ys u)) := by
 have hf := Try.func45
 have hE := enters_of hf (by kernel_rfl) rfl
 refine fE hf (fun w cs => ?_) hE
 refine rr (fun _ => []) (fun q1 => [(6, pt ((q1 0).blk 0) 0), (7, pt ((q1 1).blk 0) 0), (8, pt ((q1 2).blk 0) 0)]) [] (fun q1 L => L ++ [ob ((q1 0).blk 0) (rB 72 xs).toArray 50, ob ((q1 1).blk 0) (rB 72 ys).toArray 50, ob ((q1 2).blk 0) #[.bool false] 4]) fun q1 => ?_
 refine rr (fun _ => [(2, .c [] [3, 4] (xof 1 u))]) (fun q2 => [(12, .func (.func 93) #[] #[pt (((q2 2).blk 0)) 0, pt (((q2 2).blk 1)) 0])]) [] (fun q2 L => L ++ [ob ((q2 2).blk 0) #[i6 1] 3, ob ((q2 2).blk 1) #[i6 (u : Int)] 3]) fun q2 => ?_
 refine rfx0 (encs := fun (x : Nat) => #[i6 (x : Int)]) (xs := (List.range 8).map fun k => 9 * k + u) (KO := [[(((q2 2).blk 0), .cells #[i6 1] 3 (0, 0))], [(((q2 2).blk 1), .cells #[i6 (u : Int)] 3 (0, 0))]]) (xof1_it ((q2 2).blk 0) ((q2 2).blk 1) u (by omega)) (enters_of Try.func93 (by kernel_rfl) rfl) (fun k => k ≤ 8 ∧ (∀ j, j < k → xs.getD (9 * j + u) 0 = ys.getD (9 * j + u) 0)) (fun _ L => L) (fun c k => (c = Code.ret ∧ (∃ j, j + 1 = k ∧ ((xs.getD (9 * j + u) 0).toNat : Int) ≠ ((ys.getD (9 * j + u) 0).toNat : Int)))) (fun _ _ L => L.set 2 (ob ((q1 2).blk 0) #[.bool true] 4)) [3, 4] ⟨by omega, (fun _ h => absurd h (Nat.not_lt_zero _))⟩ (by kernel_rfl) (fun lR k xE R1 W1 hxE ⟨hk4, hw⟩ => ?_) (fun D3  ⟨hk4, hw⟩ => ?_) fun D3 c k hi hX => ?_
 ·obtain ⟨hkb5, rfl⟩ := range_map_some hxE
  refine r0 [] [(9, i6 ((9 * k + u : Nat) : Int))] [] ?_
  refine ag [3, 4] (fun R2 W2 => ?_)
  refine r0 [(1, iA 50 .i64 ((q1 0).blk 0) 0 72 1 (9 * k + u)), (2, rD 0 ((q1 0).blk 0) (9 * k + u) 50 (rB 72 xs) (rB_get (by omega))), (4, iA 50 .i64 ((q1 1).blk 0) 0 72 1 (9 * k + u)), (5, rD 1 ((q1 1).blk 0) (9 * k + u) 50 (rB 72 ys) (rB_get (by omega)))] [(20, .bool (((xs.getD (9 * k + u) 0).toNat : Int) != ((ys.getD (9 * k + u) 0).toNat : Int)))] [] ?_
  refine cNe ((xs.getD (9 * k + u) 0).toNat : Int) ((ys.getD (9 * k + u) 0).toNat : Int) (fun h8 dh8 => ?_) fun h8 dh8 => ?_
  ·refine rr (fun _ => [(0, .s 2)]) (fun _ => []) [] (fun _ L => L.set 2 (ob ((q1 2).blk 0) #[.bool true] 4)) fun q9 => ?_
   exact nr _ ⟨⟨rfl, ⟨_, rfl, (by assumption)⟩⟩, rfl⟩ [0, 1, 2, 3, 4] (by kernel_rfl)
  exact ne _ ⟨⟨by omega, wr_s hw (by assumption)⟩, rfl⟩ [0, 1, 2, 3, 4] (by kernel_rfl)
 ·refine r0 [(0, .s 2)] [] [] ?_
  exact lfV (.bool false) Env.zero (by first | (simp only [List.length_map, List.length_range] at hw; rw [wr_f hw]) | (obtain ⟨j, hj, hn⟩ := hx0; have hi2 := hi; simp only [List.length_map, List.length_range] at hi2; rw [wr_t (k := j) (by omega) hn])) [] [] [2]
 obtain ⟨rfl, hx0⟩ := hX
 exact lfV (.bool true) Env.zero (by first | (simp only [List.length_map, List.length_range] at hw; rw [wr_f hw]) | (obtain ⟨j, hj, hn⟩ := hx0; have hi2 := hi; simp only [List.length_map, List.length_range] at hi2; rw [wr_t (k := j) (by omega) hn])) [] [] [2]
set_option maxRecDepth 100000 in
theorem xwrong2 (u : Nat) (hc : u < 36) (xs ys : List UInt8) (hx : xs.length = 72) (hy : ys.length = 72) : Con Try.prog 45 #[i6 2, i6 (u : Int), .agg (rB 72 xs).toArray, .agg (rB 72 ys).toArray] [] [] (fun _ => []) (fun _ => .bool (wrT 36 2 xs ys u)) := by
 have hf := Try.func45
 have hE := enters_of hf (by kernel_rfl) rfl
 refine fE hf (fun w cs => ?_) hE
 refine rr (fun _ => []) (fun q1 => [(6, pt ((q1 0).blk 0) 0), (7, pt ((q1 1).blk 0) 0), (8, pt ((q1 2).blk 0) 0)]) [] (fun q1 L => L ++ [ob ((q1 0).blk 0) (rB 72 xs).toArray 50, ob ((q1 1).blk 0) (rB 72 ys).toArray 50, ob ((q1 2).blk 0) #[.bool false] 4]) fun q1 => ?_
 refine rr (fun _ => [(2, .c [] [3, 4] (xof 2 u))]) (fun q2 => [(12, .func (.func 93) #[] #[pt (((q2 2).blk 0)) 0, pt (((q2 2).blk 1)) 0])]) [] (fun q2 L => L ++ [ob ((q2 2).blk 0) #[i6 2] 3, ob ((q2 2).blk 1) #[i6 (u : Int)] 3]) fun q2 => ?_
 refine rfx0 (encs := fun (x : Nat) => #[i6 (x : Int)]) (xs := (List.range 2).map fun k => 36 * k + u) (KO := [[(((q2 2).blk 0), .cells #[i6 2] 3 (0, 0))], [(((q2 2).blk 1), .cells #[i6 (u : Int)] 3 (0, 0))]]) (xof2_it ((q2 2).blk 0) ((q2 2).blk 1) u (by omega)) (enters_of Try.func93 (by kernel_rfl) rfl) (fun k => k ≤ 2 ∧ (∀ j, j < k → xs.getD (36 * j + u) 0 = ys.getD (36 * j + u) 0)) (fun _ L => L) (fun c k => (c = Code.ret ∧ (∃ j, j + 1 = k ∧ ((xs.getD (36 * j + u) 0).toNat : Int) ≠ ((ys.getD (36 * j + u) 0).toNat : Int)))) (fun _ _ L => L.set 2 (ob ((q1 2).blk 0) #[.bool true] 4)) [3, 4] ⟨by omega, (fun _ h => absurd h (Nat.not_lt_zero _))⟩ (by kernel_rfl) (fun lR k xE R1 W1 hxE ⟨hk4, hw⟩ => ?_) (fun D3  ⟨hk4, hw⟩ => ?_) fun D3 c k hi hX => ?_
 ·obtain ⟨hkb5, rfl⟩ := range_map_some hxE
  refine r0 [] [(9, i6 ((36 * k + u : Nat) : Int))] [] ?_
  refine ag [3, 4] (fun R2 W2 => ?_)
  refine r0 [(1, iA 50 .i64 ((q1 0).blk 0) 0 72 1 (36 * k + u)), (2, rD 0 ((q1 0).blk 0) (36 * k + u) 50 (rB 72 xs) (rB_get (by omega))), (4, iA 50 .i64 ((q1 1).blk 0) 0 72 1 (36 * k + u)), (5, rD 1 ((q1 1).blk 0) (36 * k + u) 50 (rB 72 ys) (rB_get (by omega)))] [(20, .bool (((xs.getD (36 * k + u) 0).toNat : Int) != ((ys.getD (36 * k + u) 0).toNat : Int)))] [] ?_
  refine cNe ((xs.getD (36 * k + u) 0).toNat : Int) ((ys.getD (36 * k + u) 0).toNat : Int) (fun h8 dh8 => ?_) fun h8 dh8 => ?_
  ·refine rr (fun _ => [(0, .s 2)]) (fun _ => []) [] (fun _ L => L.set 2 (ob ((q1 2).blk 0) #[.bool true] 4)) fun q9 => ?_
   exact nr _ ⟨⟨rfl, ⟨_, rfl, (by assumption)⟩⟩, rfl⟩ [0, 1, 2, 3, 4] (by kernel_rfl)
  exact ne _ ⟨⟨by omega, wr_s hw (by assumption)⟩, rfl⟩ [0, 1, 2, 3, 4] (by kernel_rfl)
 ·refine r0 [(0, .s 2)] [] [] ?_
  exact lfV (.bool false) Env.zero (by first | (simp only [List.length_map, List.length_range] at hw; rw [wr_f hw]) | (obtain ⟨j, hj, hn⟩ := hx0; have hi2 := hi; simp only [List.length_map, List.length_range] at hi2; rw [wr_t (k := j) (by omega) hn])) [] [] [2]
 obtain ⟨rfl, hx0⟩ := hX
 exact lfV (.bool true) Env.zero (by first | (simp only [List.length_map, List.length_range] at hw; rw [wr_f hw]) | (obtain ⟨j, hj, hn⟩ := hx0; have hi2 := hi; simp only [List.length_map, List.length_range] at hi2; rw [wr_t (k := j) (by omega) hn])) [] [] [2]
/-- Those among the first n that are so. -/
def wrI (f : Nat → Bool) : Nat → List Nat
  | 0 => []
  | n + 1 => wrI f n ++ (bif f n then [n] else [])
theorem wi_t {f : Nat → Bool} {k : Nat} (h : f k = true) : (wrI f k).length + 1 = (wrI f (k + 1)).length := by
  rw [wrI, h, List.length_append]; rfl
theorem wi_f {f : Nat → Bool} {k : Nat} (h : f k = false) : (wrI f k).length = (wrI f (k + 1)).length := by
  rw [wrI, h, List.length_append]; rfl
theorem wi_get {f : Nat → Bool} {k : Nat} (hc : f k = true) : ∀ {n : Nat}, k < n → (wrI f n)[(wrI f k).length]? = some k
  | n + 1, h => by
    rw [wrI]
    by_cases e : k = n
    · subst e
      rw [List.getElem?_append_right (Nat.le_refl _), hc, Nat.sub_self]
      rfl
    · have h1 := wi_get hc (n := n) (by omega)
      rw [List.getElem?_append_left (List.getElem?_eq_some_iff.1 h1).1]
      exact h1
def wl1 (r : List UInt8) (x : Int) : List Nat := bif jK ((List.range 8).map (dK r x)) == 1 then wrI (wrT 9 8 (encT 9 (eW1 (xDec1_0 r x) x false) 8) r) 9 else []
def wl2 (r : List UInt8) (x : Int) : List Nat := bif jK ((List.range 2).map (cK r x)) == 1 then wrI (wrT 36 2 (encT 36 (eW2 (xDec2_0 r x) x false) 2) r) 36 else []
theorem wl1_y {r : List UInt8} {x : Int} (h : jK ((List.range 8).map (dK r x)) = 1) : wl1 r x = wrI (wrT 9 8 (encT 9 (eW1 (xDec1_0 r x) x false) 8) r) 9 := by unfold wl1; rw [h]; rfl
theorem wl2_y {r : List UInt8} {x : Int} (h : jK ((List.range 2).map (cK r x)) = 1) : wl2 r x = wrI (wrT 36 2 (encT 36 (eW2 (xDec2_0 r x) x false) 2) r) 36 := by unfold wl2; rw [h]; rfl
theorem wl1_n {r : List UInt8} {x : Int} (h : jK ((List.range 8).map (dK r x)) ≠ 1) : 0 = (wl1 r x).length := by unfold wl1; rw [beq_false_of_ne h]; rfl
theorem wl2_n {r : List UInt8} {x : Int} (h : jK ((List.range 2).map (cK r x)) ≠ 1) : 0 = (wl2 r x).length := by unfold wl2; rw [beq_false_of_ne h]; rfl
theorem fill64 (f : Nat → UInt8) (n : Nat) : (fillL 64 f n).length = 64 := fillL_len _ _ _
theorem xDec1_len (r : List UInt8) (x : Int) : (xDec1_0 r x).length = 64 := by unfold xDec1_0; cases decide (2 ≤ (jK ((List.range 8).map (dK r x)))) <;> first | rfl | exact fill64 _ _
theorem xDec2_len {r : List UInt8} (hr : r.length = 72) (x : Int) : (xDec2_0 r x).length = 64 := by unfold xDec2_0; cases decide (2 ≤ (jK ((List.range 2).map (cK r x)))) <;> first | rfl | exact hvT_len (cWx_len hr x) (Nat.le_refl 2)
theorem enc1_len (l : List UInt8) (x : Int) (p : Bool) : (encT 9 (eW1 l x p) 8).length = 72 := encT_len (n := 9) (eW1_len l x p) (k := 8) (by decide)
theorem enc2_len {l : List UInt8} (hl : l.length = 64) (x : Int) (p : Bool) : (encT 36 (eW2 l x p) 2).length = 72 := encT_len (n := 36) (eW2_len hl x p) (k := 2) (by decide)
attribute [local irreducible] jK dK cK xDec1_0 xDec2_0 encT eW1 eW2 xjoin_0 wrT wl1 wl2 hcD htD exB logL genL
set_option maxRecDepth 100000 in
theorem xWrong (cc : Nat) (m x : Int) (r : List UInt8) (hr : r.length = 72) : Con Try.prog 15 #[pt cc 0, i6 m, i6 x, .agg (rB 72 r).toArray] [] [] (fun E => [ob (E.blk 0) #[pt cc 0] 51, ob (E.blk 1) #[i6 m] 3, ob (E.blk 2) (rB 72 r).toArray 50, ob (E.blk 3) #[i6 x] 3]) (fun E => .func (.func 43) #[] #[pt ((E.blk 0)) 0, pt ((E.blk 1)) 0, pt ((E.blk 2)) 0, pt ((E.blk 3)) 0]) := by
 have hf := Try.func15
 have hE := enters_of hf (by kernel_rfl) rfl
 refine fE hf (fun w cs => ?_) hE
 refine rr (fun _ => []) (fun q1 => [(4, pt ((q1 0).blk 0) 0), (5, pt ((q1 1).blk 0) 0), (6, pt ((q1 2).blk 0) 0), (7, pt ((q1 3).blk 0) 0), (8, .nilFunc)]) [] (fun q1 L => L ++ [ob ((q1 0).blk 0) #[pt cc 0] 51, ob ((q1 1).blk 0) #[i6 m] 3, ob ((q1 2).blk 0) #[i6 x] 3, ob ((q1 3).blk 0) (rB 72 r).toArray 50]) fun q1 => ?_
 refine r0 [] [(8, .func (.func 43) #[] #[pt ((q1 0).blk 0) 0, pt ((q1 1).blk 0) 0, pt ((q1 3).blk 0) 0, pt ((q1 2).blk 0) 0])] [8] ?_
 exact lf (.l [(q1 0).blk 0, (q1 1).blk 0, (q1 3).blk 0, (q1 2).blk 0] [] []) [0, 1, 3, 2] [] []
set_option maxRecDepth 100000 in
theorem xWr1_it (cc hb cb b1 b2 b3 b4 : Nat) (r : List UInt8) (hr : r.length = 72) (x : Int) : IterE 5 Try.prog 43 #[pt b1 0, pt b2 0, pt b3 0, pt b4 0] (fun (z : Nat) => #[i6 (z : Int)]) (wl1 r x) (List.flatten [[(b1, .cells #[pt cc 0] 51 (0, 0))], [(b2, .cells #[i6 1] 3 (0, 0))], [(b3, .cells (rB 72 r).toArray 50 (0, 0))], [(b4, .cells #[i6 x] 3 (0, 0))], [(cc, .cells #[pt hb 0, pt cb 0] 83 (0, 0))], [(hb, .cells (rB 74 (hcD 10) ++ rI 256 (htD 10)).toArray 117 (0, 0))]]) := by
 refine gi (KO := [[(b1, .cells #[pt cc 0] 51 (0, 0))], [(b2, .cells #[i6 1] 3 (0, 0))], [(b3, .cells (rB 72 r).toArray 50 (0, 0))], [(b4, .cells #[i6 x] 3 (0, 0))], [(cc, .cells #[pt hb 0, pt cb 0] 83 (0, 0))], [(hb, .cells (rB 74 (hcD 10) ++ rI 256 (htD 10)).toArray 117 (0, 0))]]) Try.func43 (fun lY JY JX WI RI hJ hY hI => ?_)
 refine rr (fun _ => [(0, .m (ld 0 (pt cc 0))), (1, .m (ld 1 (i6 1))), (2, .m (ls 2 (rB 72 r))), (3, .m (ld 3 (i6 x))), (4, .c [4, 5] [] (xDec1 cc hb cb r (by first | rfl | (simp only [List.length_set, List.length_append, List.length_replicate, List.length_cons, List.length_nil, List.length_map, List.length_range, List.length_take, List.length_drop, xDec1_len, enc1_len, hr]; done) | (simp only [List.length_set, List.length_append, List.length_replicate, List.length_cons, List.length_nil, List.length_map, List.length_range, List.length_take, List.length_drop, xDec1_len, enc1_len, hr]; omega)) x)), (5, .v (.tuple #[.agg (rB 64 (xDec1_0 r x)).toArray, .agg #[i6 (jK ((List.range 8).map (dK r x))), i6 (xjoin_0 ((List.range 8).map (dK r x)))]])), (6, .v (.agg (rB 64 (xDec1_0 r x)).toArray)), (7, .v (.agg #[i6 (jK ((List.range 8).map (dK r x))), i6 (xjoin_0 ((List.range 8).map (dK r x)))])), (8, .m (al 6)), (9, .m (al 7)), (10, .s 6), (11, .s 7)]) (fun q1 => [(6, pt ((q1 8).blk 0) 0), (7, pt ((q1 9).blk 0) 0)]) [] (fun q1 L => L ++ [ob ((q1 8).blk 0) (rB 64 (xDec1_0 r x)).toArray 48, ob ((q1 9).blk 0) #[i6 (jK ((List.range 8).map (dK r x))), i6 (xjoin_0 ((List.range 8).map (dK r x)))] 55]) fun q1 => ?_
 refine r0 [(1, .l 7)] [(20, .bool ((jK ((List.range 8).map (dK r x))) != 1))] [] ?_
 refine cNe (jK ((List.range 8).map (dK r x))) 1 (fun h3 dh3 => ?_) fun h3 dh3 => ?_
 ·exact il hJ hI (by first | (rw [wl1_y (by assumption)]) | exact wl1_n (by assumption)) [ob ((q1 8).blk 0) (rB 64 (xDec1_0 r x)).toArray 48, ob ((q1 9).blk 0) #[i6 (jK ((List.range 8).map (dK r x))), i6 (xjoin_0 ((List.range 8).map (dK r x)))] 55] [0, 1, 2, 3, 4, 5, 6, 7]
 refine rr (fun _ => [(0, .l 0), (1, .l 1), (2, .l 6), (3, .l 3), (4, .c [4, 5] [] (xEnc1 cc hb cb (xDec1_0 r x) (by first | rfl | (simp only [List.length_set, List.length_append, List.length_replicate, List.length_cons, List.length_nil, List.length_map, List.length_range, List.length_take, List.length_drop, xDec1_len, enc1_len, hr]; done) | (simp only [List.length_set, List.length_append, List.length_replicate, List.length_cons, List.length_nil, List.length_map, List.length_range, List.length_take, List.length_drop, xDec1_len, enc1_len, hr]; omega)) x false)), (6, .s 8)]) (fun q4 => [(8, pt ((q4 5).blk 0) 0)]) [] (fun q4 L => L ++ [ob ((q4 5).blk 0) (rB 72 (encT 9 (eW1 (xDec1_0 r x) x false) 8)).toArray 50]) fun q4 => ?_
 refine r0 [(0, .l 1), (1, .c [] [] (xchips1))] [(27, i6 9), (28, i6 0)] [] ?_
 refine lqI (fun k => k ≤ 9) (fun k => [(28, i6 (k : Int))]) (fun _ L => L) (fun k => 9 - k) (fun k => (wrI (wrT 9 8 (encT 9 (eW1 (xDec1_0 r x) x false) 8) r) k).length) 0 (by omega) hI (by kernel_rfl) (by kernel_rfl) (fun k R8 W9 hk6 hI7 => ?_)
 refine r0 [] [(29, .bool (decide ((k : Int) < 9)))] [] ?_
 refine cLt (k : Int) 9 (fun h11 dh11 => ?_) fun h11 dh11 => ?_
 ·refine r0 [] [(9, i6 (k : Int))] [] ?_
  cases h13 : (wrT 9 8 (encT 9 (eW1 (xDec1_0 r x) x false) 8) r k)
  case true =>
   refine iy hJ hY hI7 8 (fun _ => [(0, .l 1), (2, .l 8), (3, .l 2), (4, .c [] [] (Con.v ((xwrong1 k (by omega) (encT 9 (eW1 (xDec1_0 r x) x false) 8) r (by first | rfl | (simp only [List.length_set, List.length_append, List.length_replicate, List.length_cons, List.length_nil, List.length_map, List.length_range, List.length_take, List.length_drop, xDec1_len, enc1_len, hr]; done) | (simp only [List.length_set, List.length_append, List.length_replicate, List.length_cons, List.length_nil, List.length_map, List.length_range, List.length_take, List.length_drop, xDec1_len, enc1_len, hr]; omega)) (by first | rfl | (simp only [List.length_set, List.length_append, List.length_replicate, List.length_cons, List.length_nil, List.length_map, List.length_range, List.length_take, List.length_drop, xDec1_len, enc1_len, hr]; done) | (simp only [List.length_set, List.length_append, List.length_replicate, List.length_cons, List.length_nil, List.length_map, List.length_range, List.length_take, List.length_drop, xDec1_len, enc1_len, hr]; omega)))) fun _ => congrArg Value.bool (show (wrT 9 8 (encT 9 (eW1 (xDec1_0 r x) x false) 8) r k) = true from h13)))]) (fun _ => [(36, .bool true), (37, .func (.yield lY) #[] #[]), (38, i6 (k : Int))]) [] (fun _ L => L) (fun _ => [ob ((q1 8).blk 0) (rB 64 (xDec1_0 r x)).toArray 48, ob ((q1 9).blk 0) #[i6 (jK ((List.range 8).map (dK r x))), i6 (xjoin_0 ((List.range 8).map (dK r x)))] 55, ob ((q4 5).blk 0) (rB 72 (encT 9 (eW1 (xDec1_0 r x) x false) 8)).toArray 50]) [0, 1, 2, 3, 4, 5, 6, 7, 8] (by rw [wl1_y (by assumption)]; exact wi_get (by assumption) (by omega)) (fun q14 R15 W16 hI17 => ?_)
   refine cF _ rfl ?_
   refine r0 [(0, ad k 1)] [(28, i6 ((k + 1 : Nat) : Int))] [28] ?_
   exact leI (k + 1) (by omega) (by (first | rw [← wi_t (f := wrT 9 8 (encT 9 (eW1 (xDec1_0 r x) x false) 8) r) (by assumption)] | rw [← wi_f (f := wrT 9 8 (encT 9 (eW1 (xDec1_0 r x) x false) 8) r) (by assumption)]); exact hI17) (by omega) (by kernel_rfl) [0, 1, 2, 3, 4, 5, 6, 7, 8] (by kernel_rfl)
  refine r0 [(0, .l 1), (2, .l 8), (3, .l 2), (4, .c [] [] (Con.v ((xwrong1 k (by omega) (encT 9 (eW1 (xDec1_0 r x) x false) 8) r (by first | rfl | (simp only [List.length_set, List.length_append, List.length_replicate, List.length_cons, List.length_nil, List.length_map, List.length_range, List.length_take, List.length_drop, xDec1_len, enc1_len, hr]; done) | (simp only [List.length_set, List.length_append, List.length_replicate, List.length_cons, List.length_nil, List.length_map, List.length_range, List.length_take, List.length_drop, xDec1_len, enc1_len, hr]; omega)) (by first | rfl | (simp only [List.length_set, List.length_append, List.length_replicate, List.length_cons, List.length_nil, List.length_map, List.length_range, List.length_take, List.length_drop, xDec1_len, enc1_len, hr]; done) | (simp only [List.length_set, List.length_append, List.length_replicate, List.length_cons, List.length_nil, List.length_map, List.length_range, List.length_take, List.length_drop, xDec1_len, enc1_len, hr]; omega)))) fun _ => congrArg Value.bool (show (wrT 9 8 (encT 9 (eW1 (xDec1_0 r x) x false) 8) r k) = false from h13))), (6, .d), (7, .d), (8, .d), (9, .d)] [(41, .bool false)] [] ?_
  refine cF _ rfl ?_
  refine r0 [(0, ad k 1)] [(28, i6 ((k + 1 : Nat) : Int))] [28] ?_
  exact leI (k + 1) (by omega) (by (first | rw [← wi_t (f := wrT 9 8 (encT 9 (eW1 (xDec1_0 r x) x false) 8) r) (by assumption)] | rw [← wi_f (f := wrT 9 8 (encT 9 (eW1 (xDec1_0 r x) x false) 8) r) (by assumption)]); exact hI7) (by omega) (by kernel_rfl) [0, 1, 2, 3, 4, 5, 6, 7, 8] (by kernel_rfl)
 obtain rfl : k = 9 := by omega
 refine lxI ?_
 exact ilN hJ hI7 (by first | (rw [wl1_y (by assumption)]) | exact wl1_n (by assumption)) [ob ((q1 8).blk 0) (rB 64 (xDec1_0 r x)).toArray 48, ob ((q1 9).blk 0) #[i6 (jK ((List.range 8).map (dK r x))), i6 (xjoin_0 ((List.range 8).map (dK r x)))] 55, ob ((q4 5).blk 0) (rB 72 (encT 9 (eW1 (xDec1_0 r x) x false) 8)).toArray 50] [0, 1, 2, 3, 4, 5, 6, 7, 8]
set_option maxRecDepth 100000 in
theorem xWr2_it (cc hb cb g b1 b2 b3 b4 : Nat) (u : Value) (bs : Objs) (hs : SqE eB u genL bs) (r : List UInt8) (hr : r.length = 72) (x : Int) (h0 : -9223372036854775808 ≤ x) (h1 : x ≤ 9223372036854775807) : IterE 5 Try.prog 43 #[pt b1 0, pt b2 0, pt b3 0, pt b4 0] (fun (z : Nat) => #[i6 (z : Int)]) (wl2 r x) (List.flatten [[(b1, .cells #[pt cc 0] 51 (0, 0))], [(b2, .cells #[i6 2] 3 (0, 0))], [(b3, .cells (rB 72 r).toArray 50 (0, 0))], [(b4, .cells #[i6 x] 3 (0, 0))], [(cc, .cells #[pt hb 0, pt cb 0] 83 (0, 0))], [(cb, .cells #[pt g 0, u] 128 (0, 0))], [(g, .cells (rB 255 exB ++ rN 256 logL).toArray 131 (0, 0))], bs]) := by
 have HDX := xDec2_len hr x
 have HEX := enc2_len HDX x false
 refine gi (KO := [[(b1, .cells #[pt cc 0] 51 (0, 0))], [(b2, .cells #[i6 2] 3 (0, 0))], [(b3, .cells (rB 72 r).toArray 50 (0, 0))], [(b4, .cells #[i6 x] 3 (0, 0))], [(cc, .cells #[pt hb 0, pt cb 0] 83 (0, 0))], [(cb, .cells #[pt g 0, u] 128 (0, 0))], [(g, .cells (rB 255 exB ++ rN 256 logL).toArray 131 (0, 0))], bs]) Try.func43 (fun lY JY JX WI RI hJ hY hI => ?_)
 refine rr (fun _ => [(0, .m (ld 0 (pt cc 0))), (1, .m (ld 1 (i6 2))), (2, .m (ls 2 (rB 72 r))), (3, .m (ld 3 (i6 x))), (4, .c [4, 5, 6, 7] [] (Con.at (rd' := [ob cc #[pt hb 0, pt cb 0] 83, ob cb #[pt g 0, u] 128, ob g (rB 255 exB ++ rN 256 logL).toArray 131, .c bs]) (xDec2 cc hb cb g u r (by first | rfl | (simp only [List.length_set, List.length_append, List.length_replicate, List.length_cons, List.length_nil, List.length_map, List.length_range, List.length_take, List.length_drop, HDX, HEX, hr]; done) | (simp only [List.length_set, List.length_append, List.length_replicate, List.length_cons, List.length_nil, List.length_map, List.length_range, List.length_take, List.length_drop, HDX, HEX, hr]; omega)) x (by omega) (by omega)) (atS (atS (atS (atC hs (fun _ h => h))))))), (5, .v (.tuple #[.agg (rB 64 (xDec2_0 r x)).toArray, .agg #[i6 (jK ((List.range 2).map (cK r x))), i6 (xjoin_0 ((List.range 2).map (cK r x)))]])), (6, .v (.agg (rB 64 (xDec2_0 r x)).toArray)), (7, .v (.agg #[i6 (jK ((List.range 2).map (cK r x))), i6 (xjoin_0 ((List.range 2).map (cK r x)))])), (8, .m (al 8)), (9, .m (al 9)), (10, .s 8), (11, .s 9)]) (fun q1 => [(6, pt ((q1 8).blk 0) 0), (7, pt ((q1 9).blk 0) 0)]) [] (fun q1 L => L ++ [ob ((q1 8).blk 0) (rB 64 (xDec2_0 r x)).toArray 48, ob ((q1 9).blk 0) #[i6 (jK ((List.range 2).map (cK r x))), i6 (xjoin_0 ((List.range 2).map (cK r x)))] 55]) fun q1 => ?_
 refine r0 [(1, .l 9)] [(20, .bool ((jK ((List.range 2).map (cK r x))) != 1))] [] ?_
 refine cNe (jK ((List.range 2).map (cK r x))) 1 (fun h3 dh3 => ?_) fun h3 dh3 => ?_
 ·exact il hJ hI (by first | (rw [wl2_y (by assumption)]) | exact wl2_n (by assumption)) [ob ((q1 8).blk 0) (rB 64 (xDec2_0 r x)).toArray 48, ob ((q1 9).blk 0) #[i6 (jK ((List.range 2).map (cK r x))), i6 (xjoin_0 ((List.range 2).map (cK r x)))] 55] [0, 1, 2, 3, 4, 5, 6, 7, 8, 9]
 refine rr (fun _ => [(0, .l 0), (1, .l 1), (2, .l 8), (3, .l 3), (4, .c [4, 5, 6, 7] [] (Con.at (rd' := [ob cc #[pt hb 0, pt cb 0] 83, ob cb #[pt g 0, u] 128, ob g (rB 255 exB ++ rN 256 logL).toArray 131, .c bs]) (xEnc2 cc hb cb g u (xDec2_0 r x) (by first | rfl | (simp only [List.length_set, List.length_append, List.length_replicate, List.length_cons, List.length_nil, List.length_map, List.length_range, List.length_take, List.length_drop, HDX, HEX, hr]; done) | (simp only [List.length_set, List.length_append, List.length_replicate, List.length_cons, List.length_nil, List.length_map, List.length_range, List.length_take, List.length_drop, HDX, HEX, hr]; omega)) x (by omega) (by omega) false) (atS (atS (atS (atC hs (fun _ h => h))))))), (6, .s 10)]) (fun q4 => [(8, pt ((q4 5).blk 0) 0)]) [] (fun q4 L => L ++ [ob ((q4 5).blk 0) (rB 72 (encT 36 (eW2 (xDec2_0 r x) x false) 2)).toArray 50]) fun q4 => ?_
 refine r0 [(0, .l 1), (1, .c [] [] (xchips2))] [(27, i6 36), (28, i6 0)] [] ?_
 refine lqI (fun k => k ≤ 36) (fun k => [(28, i6 (k : Int))]) (fun _ L => L) (fun k => 36 - k) (fun k => (wrI (wrT 36 2 (encT 36 (eW2 (xDec2_0 r x) x false) 2) r) k).length) 0 (by omega) hI (by kernel_rfl) (by kernel_rfl) (fun k R8 W9 hk6 hI7 => ?_)
 refine r0 [] [(29, .bool (decide ((k : Int) < 36)))] [] ?_
 refine cLt (k : Int) 36 (fun h11 dh11 => ?_) fun h11 dh11 => ?_
 ·refine r0 [] [(9, i6 (k : Int))] [] ?_
  cases h13 : (wrT 36 2 (encT 36 (eW2 (xDec2_0 r x) x false) 2) r k)
  case true =>
   refine iy hJ hY hI7 8 (fun _ => [(0, .l 1), (2, .l 10), (3, .l 2), (4, .c [] [] (Con.v ((xwrong2 k (by omega) (encT 36 (eW2 (xDec2_0 r x) x false) 2) r (by first | rfl | (simp only [List.length_set, List.length_append, List.length_replicate, List.length_cons, List.length_nil, List.length_map, List.length_range, List.length_take, List.length_drop, HDX, HEX, hr]; done) | (simp only [List.length_set, List.length_append, List.length_replicate, List.length_cons, List.length_nil, List.length_map, List.length_range, List.length_take, List.length_drop, HDX, HEX, hr]; omega)) (by first | rfl | (simp only [List.length_set, List.length_append, List.length_replicate, List.length_cons, List.length_nil, List.length_map, List.length_range, List.length_take, List.length_drop, HDX, HEX, hr]; done) | (simp only [List.length_set, List.length_append, List.length_replicate, List.length_cons, List.length_nil, List.length_map, List.length_range, List.length_take, List.length_drop, HDX, HEX, hr]; omega)))) fun _ => congrArg Value.bool (show (wrT 36 2 (encT 36 (eW2 (xDec2_0 r x) x false) 2) r k) = true from h13)))]) (fun _ => [(36, .bool true), (37, .func (.yield lY) #[] #[]), (38, i6 (k : Int))]) [] (fun _ L => L) (fun _ => [ob ((q1 8).blk 0) (rB 64 (xDec2_0 r x)).toArray 48, ob ((q1 9).blk 0) #[i6 (jK ((List.range 2).map (cK r x))), i6 (xjoin_0 ((List.range 2).map (cK r x)))] 55, ob ((q4 5).blk 0) (rB 72 (encT 36 (eW2 (xDec2_0 r x) x false) 2)).toArray 50]) [0, 1, 2, 3, 4, 5, 6, 7, 8, 9, 10] (by rw [wl2_y (by assumption)]; exact wi_get (by assumption) (by omega)) (fun q14 R15 W16 hI17 => ?_)
   refine cF _ rfl ?_
   refine r0 [(0, ad k 1)] [(28, i6 ((k + 1 : Nat) : Int))] [28] ?_
   exact leI (k + 1) (by omega) (by (first | rw [← wi_t (f := wrT 36 2 (encT 36 (eW2 (xDec2_0 r x) x false) 2) r) (by assumption)] | rw [← wi_f (f := wrT 36 2 (encT 36 (eW2 (xDec2_0 r x) x false) 2) r) (by assumption)]); exact hI17) (by omega) (by kernel_rfl) [0, 1, 2, 3, 4, 5, 6, 7, 8, 9, 10] (by kernel_rfl)
  refine r0 [(0, .l 1), (2, .l 10), (3, .l 2), (4, .c [] [] (Con.v ((xwrong2 k (by omega) (encT 36 (eW2 (xDec2_0 r x) x false) 2) r (by first | rfl | (simp only [List.length_set, List.length_append, List.length_replicate, List.length_cons, List.length_nil, List.length_map, List.length_range, List.length_take, List.length_drop, HDX, HEX, hr]; done) | (simp only [List.length_set, List.length_append, List.length_replicate, List.length_cons, List.length_nil, List.length_map, List.length_range, List.length_take, List.length_drop, HDX, HEX, hr]; omega)) (by first | rfl | (simp only [List.length_set, List.length_append, List.length_replicate, List.length_cons, List.length_nil, List.length_map, List.length_range, List.length_take, List.length_drop, HDX, HEX, hr]; done) | (simp only [List.length_set, List.length_append, List.length_replicate, List.length_cons, List.length_nil, List.length_map, List.length_range, List.length_take, List.length_drop, HDX, HEX, hr]; omega)))) fun _ => congrArg Value.bool (show (wrT 36 2 (encT 36 (eW2 (xDec2_0 r x) x false) 2) r k) = false from h13))), (6, .d), (7, .d), (8, .d), (9, .d)] [(41, .bool false)] [] ?_
  refine cF _ rfl ?_
  refine r0 [(0, ad k 1)] [(28, i6 ((k + 1 : Nat) : Int))] [28] ?_
  exact leI (k + 1) (by omega) (by (first | rw [← wi_t (f := wrT 36 2 (encT 36 (eW2 (xDec2_0 r x) x false) 2) r) (by assumption)] | rw [← wi_f (f := wrT 36 2 (encT 36 (eW2 (xDec2_0 r x) x false) 2) r) (by assumption)]); exact hI7) (by omega) (by kernel_rfl) [0, 1, 2, 3, 4, 5, 6, 7, 8, 9, 10] (by kernel_rfl)
 obtain rfl : k = 36 := by omega
 refine lxI ?_
 exact ilN hJ hI7 (by first | (rw [wl2_y (by assumption)]) | exact wl2_n (by assumption)) [ob ((q1 8).blk 0) (rB 64 (xDec2_0 r x)).toArray 48, ob ((q1 9).blk 0) #[i6 (jK ((List.range 2).map (cK r x))), i6 (xjoin_0 ((List.range 2).map (cK r x)))] 55, ob ((q4 5).blk 0) (rB 72 (encT 36 (eW2 (xDec2_0 r x) x false) 2)).toArray 50] [0, 1, 2, 3, 4, 5, 6, 7, 8, 9, 10]
end Go.Proofs.Ytdglhppcfdpcaaa.E
