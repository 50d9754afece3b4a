/- The statement RsDetects: its walk. -/
import Derived.Test.YtdgflbbffimpkaaRsT
import Derived.Test.YtdgflbbffimpkaaArrO
namespace Go.Proofs.Ytdgflbbffimpkaa
open Go.RowKit Go.Shelf
attribute [local go_sem] Oper.semAt_some
set_option linter.unusedVariables false
set_option linter.unusedSimpArgs false

/-- The place named k-th. -/
def atX (x0 x1 x2 : Int) (k : Nat) : Int := if k = 0 then x0 else if k = 1 then x1 else x2
/-- Is the k-th one passed over? -/
def skD (x0 x1 x2 : Int) (b : List UInt8) (k : Nat) : Bool :=
  (((decide (atX x0 x1 x2 k < 0) || decide (38 < atX x0 x1 x2 k)) || ((b.getD k 0).toNat : Int) == 0) || (decide (0 < (k : Int)) && atX x0 x1 x2 k == x0)) || (decide (1 < (k : Int)) && atX x0 x1 x2 k == x1)
/-- The symbols that the first k ones replace. -/
def plD (x0 x1 x2 : Int) (b : List UInt8) : Nat → List (Nat × UInt8)
  | 0 => []
  | k + 1 => if skD x0 x1 x2 b k then plD x0 x1 x2 b k else ((atX x0 x1 x2 k).toNat, b.getD k 0) :: plD x0 x1 x2 b k
def cntD (x0 x1 x2 : Int) (b : List UInt8) (k : Nat) : Nat := (plD x0 x1 x2 b k).length
/-- What was added. -/
def fe (l : List (Nat × UInt8)) (i : Nat) : UInt8 := l.foldr (fun p s => one p.1 p.2 i ^^^ s) 0
def wD (d v : List UInt8) (x0 x1 x2 : Int) (b : List UInt8) (k : Nat) : List UInt8 := ofF 36 fun i => co (wordL d v) i ^^^ fe (plD x0 x1 x2 b k) i
def vD (v : List UInt8) (x0 x1 x2 : Int) (b : List UInt8) (k : Nat) : List UInt8 := ofF 3 fun i => co v i ^^^ fe (plD x0 x1 x2 b k) (36 + i)
section
variable {d v b : List UInt8} {x0 x1 x2 : Int} {k : Nat}
theorem wD_len : (wD d v x0 x1 x2 b k).length = 36 := ofF_len _ _
theorem vD_len : (vD v x0 x1 x2 b k).length = 3 := ofF_len _ _
theorem wD_zero (hd : d.length = 32) : wD d v x0 x1 x2 b 0 = wordL d v := by
  unfold wD
  exact (ofF_congr (g := co (wordL d v)) fun i _ => UInt8.xor_zero).trans (ofF_self (wordL_len d v hd))
theorem vD_zero (hv : v.length = 3) : vD v x0 x1 x2 b 0 = v := by
  unfold vD
  exact (ofF_congr (g := co v) fun i _ => UInt8.xor_zero).trans (ofF_self hv)
theorem pl_skip (h : skD x0 x1 x2 b k = true) : plD x0 x1 x2 b (k + 1) = plD x0 x1 x2 b k := by rw [plD, if_pos h]
theorem pl_take (h : skD x0 x1 x2 b k = false) : plD x0 x1 x2 b (k + 1) = ((atX x0 x1 x2 k).toNat, b.getD k 0) :: plD x0 x1 x2 b k := by rw [plD, if_neg (by rw [h]; decide)]
theorem cnt_skip (h : skD x0 x1 x2 b k = true) : cntD x0 x1 x2 b (k + 1) = cntD x0 x1 x2 b k := by unfold cntD; rw [pl_skip h]
theorem cnt_take (h : skD x0 x1 x2 b k = false) : cntD x0 x1 x2 b (k + 1) = cntD x0 x1 x2 b k + 1 := by unfold cntD; rw [pl_take h]; rfl
theorem cnt_le (x0 x1 x2 : Int) (b : List UInt8) (k : Nat) : cntD x0 x1 x2 b k ≤ k := by
  induction k with
  | zero => exact Nat.le_refl _
  | succ k ih =>
    cases h : skD x0 x1 x2 b k
    · rw [cnt_take h]; omega
    · rw [cnt_skip h]; omega
theorem wD_skip (h : skD x0 x1 x2 b k = true) : wD d v x0 x1 x2 b (k + 1) = wD d v x0 x1 x2 b k := by unfold wD; rw [pl_skip h]
theorem vD_skip (h : skD x0 x1 x2 b k = true) : vD v x0 x1 x2 b (k + 1) = vD v x0 x1 x2 b k := by unfold vD; rw [pl_skip h]
theorem range_D (h : skD x0 x1 x2 b k = false) : 0 ≤ atX x0 x1 x2 k ∧ atX x0 x1 x2 k ≤ 38 := by
  unfold skD at h
  simp only [Bool.or_eq_false_iff, decide_eq_false_iff_not] at h
  omega
theorem ofF_put {n z : Nat} {f g : Nat → UInt8} {y : UInt8} (hz : z < n) (h : ∀ i, i < n → g i = if i = z then f z ^^^ y else f i) : ofF n g = (ofF n f).set z ((ofF n f).getD z 0 ^^^ y) := by
  have e : (ofF n f).getD z 0 = f z := by
    show co (ofF n f) z = _
    rw [co_ofF, if_pos hz]
  rw [e]
  exact (ofF_succ_set _ _ _ _ _ h).symm
theorem wD_lo (h : skD x0 x1 x2 b k = false) (h35 : atX x0 x1 x2 k ≤ 35) : wD d v x0 x1 x2 b (k + 1) = (wD d v x0 x1 x2 b k).set (atX x0 x1 x2 k).toNat ((wD d v x0 x1 x2 b k).getD (atX x0 x1 x2 k).toNat 0 ^^^ b.getD k 0) := by
  have hr := range_D h
  unfold wD
  rw [pl_take h]
  refine ofF_put (by omega) fun i _ => ?_
  show co (wordL d v) i ^^^ (one (atX x0 x1 x2 k).toNat (b.getD k 0) i ^^^ fe (plD x0 x1 x2 b k) i) = _
  by_cases e : i = (atX x0 x1 x2 k).toNat
  · rw [if_pos e, show one (atX x0 x1 x2 k).toNat (b.getD k 0) i = b.getD k 0 from if_pos e, ← e, UInt8.xor_comm (b.getD k 0), UInt8.xor_assoc]
  · rw [if_neg e, show one (atX x0 x1 x2 k).toNat (b.getD k 0) i = 0 from if_neg e, UInt8.zero_xor]
theorem vD_lo (h : skD x0 x1 x2 b k = false) (h35 : atX x0 x1 x2 k ≤ 35) : vD v x0 x1 x2 b (k + 1) = vD v x0 x1 x2 b k := by
  have hr := range_D h
  unfold vD
  rw [pl_take h]
  refine ofF_congr fun i _ => ?_
  show co v i ^^^ (one (atX x0 x1 x2 k).toNat (b.getD k 0) (36 + i) ^^^ fe (plD x0 x1 x2 b k) (36 + i)) = _
  rw [show one (atX x0 x1 x2 k).toNat (b.getD k 0) (36 + i) = 0 from if_neg (by omega), UInt8.zero_xor]
theorem wD_hi (h : skD x0 x1 x2 b k = false) (h35 : 35 < atX x0 x1 x2 k) : wD d v x0 x1 x2 b (k + 1) = wD d v x0 x1 x2 b k := by
  have hr := range_D h
  unfold wD
  rw [pl_take h]
  refine ofF_congr fun i hi => ?_
  show co (wordL d v) i ^^^ (one (atX x0 x1 x2 k).toNat (b.getD k 0) i ^^^ fe (plD x0 x1 x2 b k) i) = _
  rw [show one (atX x0 x1 x2 k).toNat (b.getD k 0) i = 0 from if_neg (by omega), UInt8.zero_xor]
theorem vD_hi (h : skD x0 x1 x2 b k = false) (h35 : 35 < atX x0 x1 x2 k) : vD v x0 x1 x2 b (k + 1) = (vD v x0 x1 x2 b k).set (atX x0 x1 x2 k - 36).toNat ((vD v x0 x1 x2 b k).getD (atX x0 x1 x2 k - 36).toNat 0 ^^^ b.getD k 0) := by
  have hr := range_D h
  unfold vD
  rw [pl_take h]
  refine ofF_put (by omega) fun i _ => ?_
  show co v i ^^^ (one (atX x0 x1 x2 k).toNat (b.getD k 0) (36 + i) ^^^ fe (plD x0 x1 x2 b k) (36 + i)) = _
  by_cases e : i = (atX x0 x1 x2 k - 36).toNat
  · rw [if_pos e, show one (atX x0 x1 x2 k).toNat (b.getD k 0) (36 + i) = b.getD k 0 from if_pos (by omega), ← e, UInt8.xor_comm (b.getD k 0), UInt8.xor_assoc]
  · rw [if_neg e, show one (atX x0 x1 x2 k).toNat (b.getD k 0) (36 + i) = 0 from if_neg (by omega), UInt8.zero_xor]
theorem fe_out {l : List (Nat × UInt8)} {i : Nat} (h : i ∉ l.map (·.1)) : fe l i = 0 := by
  induction l with
  | nil => rfl
  | cons p l ih =>
    simp only [List.map_cons, List.mem_cons, not_or] at h
    show one p.1 p.2 i ^^^ fe l i = 0
    rw [ih h.2, show one p.1 p.2 i = 0 from if_neg h.1]; rfl
theorem fe_in {l : List (Nat × UInt8)} (hn : (l.map (·.1)).Nodup) {p : Nat × UInt8} (hp : p ∈ l) : fe l p.1 = p.2 := by
  induction l with
  | nil => cases hp
  | cons q l ih =>
    obtain ⟨h1, h2⟩ := List.nodup_cons.1 hn
    show one q.1 q.2 p.1 ^^^ fe l p.1 = p.2
    rcases List.mem_cons.1 hp with rfl | hp
    · rw [fe_out h1, UInt8.xor_zero, show one p.1 p.2 p.1 = p.2 from if_pos rfl]
    · rw [ih h2 hp, show one q.1 q.2 p.1 = 0 from if_neg (fun e => h1 (by show q.1 ∈ _; rw [← e]; exact List.mem_map_of_mem hp)), UInt8.zero_xor]
theorem pl_inv (x0 x1 x2 : Int) (b : List UInt8) (k : Nat) (hk : k ≤ 3) : ((plD x0 x1 x2 b k).map (·.1)).Nodup ∧ ∀ p ∈ plD x0 x1 x2 b k, p.1 < 39 ∧ p.2 ≠ 0 ∧ ∃ j, j < k ∧ 0 ≤ atX x0 x1 x2 j ∧ p.1 = (atX x0 x1 x2 j).toNat := by
  induction k with
  | zero => exact ⟨List.Pairwise.nil, fun p hp => by cases hp⟩
  | succ k ih =>
    obtain ⟨h1, h2⟩ := ih (by omega)
    cases h : skD x0 x1 x2 b k
    · rw [pl_take h]
      have hr := range_D h
      unfold skD at h
      simp only [Bool.or_eq_false_iff, Bool.and_eq_false_iff, decide_eq_false_iff_not, u8I_zero, beq_eq_false_iff_ne] at h
      obtain ⟨⟨⟨_, hb⟩, h0⟩, h11⟩ := h
      refine ⟨List.nodup_cons.2 ⟨fun hm => ?_, h1⟩, fun p hp => ?_⟩
      · obtain ⟨p, hp, e⟩ := List.mem_map.1 hm
        obtain ⟨_, _, j, hj, hj0, hje⟩ := h2 p hp
        have e2 : atX x0 x1 x2 j = atX x0 x1 x2 k := by
          have : (atX x0 x1 x2 j).toNat = (atX x0 x1 x2 k).toNat := hje.symm.trans e
          omega
        have hj2 : j = 0 ∨ j = 1 := by omega
        rcases hj2 with rfl | rfl
        · rcases h0 with h0 | h0
          · omega
          · exact h0 e2.symm
        · rcases h11 with h11 | h11
          · omega
          · exact h11 e2.symm
      · rcases List.mem_cons.1 hp with rfl | hp
        · exact ⟨by show (atX x0 x1 x2 k).toNat < 39; omega, hb, k, by omega, hr.1, rfl⟩
        · obtain ⟨a1, a2, j, hj, a3⟩ := h2 p hp
          exact ⟨a1, a2, j, by omega, a3⟩
    · rw [pl_skip h]
      exact ⟨h1, fun p hp => by obtain ⟨a1, a2, j, hj, a3⟩ := h2 p hp; exact ⟨a1, a2, j, by omega, a3⟩⟩
end
theorem loc_D (d v b : List UInt8) (x0 x1 x2 : Int) (hd : d.length = 32) (hv : v.length = 3) (h2 : 2 ≤ cntD x0 x1 x2 b 3) : locF (co (synL (wD d v x0 x1 x2 b 3) (vD v x0 x1 x2 b 3))) = ⟨3, -1, 0⟩ := by
  obtain ⟨hn, hp⟩ := pl_inv x0 x1 x2 b 3 (by omega)
  have h3 := cnt_le x0 x1 x2 b 3
  rw [loc_add d v _ _ (fe (plD x0 x1 x2 b 3)) hd hv (by rw [List.length_append, wD_len, vD_len]) fun i hi => ?_]
  · have hl : ((plD x0 x1 x2 b 3).map (·.1)).length = cntD x0 x1 x2 b 3 := List.length_map ..
    refine loc_lost (Nat.le_trans (by omega) (supp_ge hn fun i hi => ?_)) (Nat.le_trans (supp_le fun i _ hne => ?_) (by rw [hl]; exact h3))
    · obtain ⟨p, hm, rfl⟩ := List.mem_map.1 hi
      obtain ⟨a1, a2, _⟩ := hp p hm
      exact ⟨a1, by rw [fe_in hn hm]; exact a2⟩
    · exact Classical.byContradiction fun h => hne (fe_out h)
  · by_cases h : i < 36
    · rw [co_left (by rw [wD_len]; exact h), co_left (by rw [wordL_len d v hd]; exact h)]
      show co (wD d v x0 x1 x2 b 3) i = co (wordL d v) i ^^^ _
      unfold wD
      rw [co_ofF, if_pos h]
    · obtain ⟨t, rfl⟩ : ∃ t, i = 36 + t := ⟨i - 36, by omega⟩
      rw [co_right wD_len, co_right (wordL_len d v hd)]
      show co (vD v x0 x1 x2 b 3) t = co v t ^^^ _
      unfold vD
      rw [co_ofF, if_pos (by omega)]
theorem vdE {x y : Vd} (h : x = y) (p q : Operand) (w : World) : (do eqGuard .eql 30 p q (.agg #[.int .i64 (x.kind : Int), .int .i64 x.place, .int .u8 (x.val.toNat : Int)]) (.agg #[.int .i64 (y.kind : Int), .int .i64 y.place, .int .u8 (y.val.toNat : Int)]); Go.binOp .eql 30 (.agg #[.int .i64 (x.kind : Int), .int .i64 x.place, .int .u8 (x.val.toNat : Int)]) (.agg #[.int .i64 (y.kind : Int), .int .i64 y.place, .int .u8 (y.val.toNat : Int)]) : Sem Value).run Try.prog w = .ok (.bool true) w := by
  subst h
  exact eqV_self _ _ _ _ _ _
theorem ixI3_0 (x0 x1 x2 : Int) (W : World) : (Instr.index 41 (.agg #[.int .i64 x0, .int .i64 x1, .int .i64 x2]) (.int .i64 0)).run Try.prog W = .ok (.int .i64 x0) W := by kernel_rfl
theorem ixI3_1 (x0 x1 x2 : Int) (W : World) : (Instr.index 41 (.agg #[.int .i64 x0, .int .i64 x1, .int .i64 x2]) (.int .i64 1)).run Try.prog W = .ok (.int .i64 x1) W := by kernel_rfl
theorem ixI3_2 (x0 x1 x2 : Int) (W : World) : (Instr.index 41 (.agg #[.int .i64 x0, .int .i64 x1, .int .i64 x2]) (.int .i64 2)).run Try.prog W = .ok (.int .i64 x2) W := by kernel_rfl
theorem ixI3 (x0 x1 x2 : Int) (k : Nat) (hk : k < 3) (W : World) : (Instr.index 41 (.agg #[.int .i64 x0, .int .i64 x1, .int .i64 x2]) (.int .i64 (k : Int))).run Try.prog W = .ok (.int .i64 (atX x0 x1 x2 k)) W := by
  have h : k = 0 ∨ k = 1 ∨ k = 2 := by omega
  rcases h with rfl | rfl | rfl
  · exact ixI3_0 x0 x1 x2 W
  · exact ixI3_1 x0 x1 x2 W
  · exact ixI3_2 x0 x1 x2 W
theorem arX36I (g : Nat) (z : Int) (h0 : 0 ≤ z) (h : z < 36) (W : World) : (Instr.indexAt 23 (.pointer (some ⟨g, 0, none⟩)) (.int .i64 z)).run Try.prog W = .ok (.pointer (some ⟨g, z.toNat, none⟩)) W := by
  obtain ⟨n, rfl⟩ := Int.eq_ofNat_of_zero_le h0
  exact arX36 g n (by omega) W
theorem arX3I (g : Nat) (z : Int) (h0 : 0 ≤ z) (h : z < 3) (W : World) : (Instr.indexAt 24 (.pointer (some ⟨g, 0, none⟩)) (.int .i64 z)).run Try.prog W = .ok (.pointer (some ⟨g, z.toNat, none⟩)) W := by
  obtain ⟨n, rfl⟩ := Int.eq_ofNat_of_zero_le h0
  exact arX3 g n (by omega) W
attribute [local irreducible] decL wordL synL locF chkL gm wD vD atX

set_option maxRecDepth 100000 in
set_option maxHeartbeats 1000000 in
theorem RsDetects_any (d v : List UInt8) (x0 x1 x2 : Int) (b : List UInt8) (hd : d.length = 32) (hv : v.length = 3) (hb : b.length = 3) (w : World) : Calls Try.prog 5 #[.agg (rawV d), .agg (rawV v), .agg #[.int .i64 x0, .int .i64 x1, .int .i64 x2], .agg (rawV b)] w fun e w' => e = .returned (.bool true) ∧ Below w.heap.size w w' := by
  obtain ⟨b0, hb0⟩ : ∃ b0, w.heap.size = b0 := ⟨_, rfl⟩
  have HB0 := Lib.hid hb0
  have OW := Lib.hid (Own.start b0 w)
  have OZ := Lib.hid (And.intro hb0 (Nat.le_refl b0))
  clear hb0
  have HD := Lib.hid hd
  have HV := Lib.hid hv
  have HB := Lib.hid hb
  clear hd hv hb
  refine (callsIn_wide (n := 6)).1 ?_
  refine callsIn_of_wp_marks Try.func5 rfl trivial ?_ rfl
  simp only [Try.ntmps5, List.size_toArray, List.length_cons, List.length_nil, Nat.reduceAdd, Nat.reduceSub, Array.replicate_succ, Array.replicate_zero, List.push_toArray, List.append_toArray, List.nil_append, List.cons_append]
  gi_upto_region 1 with (first | (refine onlyD 4 rfl ?_; refine own_boxV 4 32 (.tmp 0) rfl rfl rfl (.agg (rawV d)) rfl (rawV d) rfl OW OZ ?_; clear OW OZ; intro W g1 OW OZ; simp only [Act.put, List.setIfInBounds_toArray, List.set_cons_succ, List.set_cons_zero]) | (refine onlyD 5 rfl ?_; refine own_boxV 5 24 (.tmp 1) rfl rfl rfl (.agg (rawV v)) rfl (rawV v) rfl OW OZ ?_; clear OW OZ; intro W g2 OW OZ; simp only [Act.put, List.setIfInBounds_toArray, List.set_cons_succ, List.set_cons_zero]) | (refine onlyD 6 rfl ?_; refine own_boxV 6 41 (.tmp 2) rfl rfl rfl (.agg #[.int .i64 x0, .int .i64 x1, .int .i64 x2]) rfl #[.int .i64 x0, .int .i64 x1, .int .i64 x2] rfl OW OZ ?_; clear OW OZ; intro W g3 OW OZ; simp only [Act.put, List.setIfInBounds_toArray, List.set_cons_succ, List.set_cons_zero]) | (refine onlyD 7 rfl ?_; refine own_boxV 7 24 (.tmp 3) rfl rfl rfl (.agg (rawV b)) rfl (rawV b) rfl OW OZ ?_; clear OW OZ; intro W g4 OW OZ; simp only [Act.put, List.setIfInBounds_toArray, List.set_cons_succ, List.set_cons_zero]))
  gi_wp2_with fail
  refine ⟨trivial, ?_⟩
  refine (callsIn_wide.2 (coded_any _)).mono ?_
  rintro e Wg ⟨cb, fb, gb, rest, rfl, hO⟩
  have OW1 := Lib.hid (Own.join OW.out (by rw [OZ.out.1]; exact OZ.out.2) hO)
  clear OW OZ hO
  have OW := OW1
  clear OW1
  obtain ⟨grg5, OZ⟩ := own_size OW HB0
  have HCODE := Lib.hid (fun (L : Objs) (V : World) (h : Own b0 w L V) (h1 : L[4]? = some (fb, Obj.cells fieldCells 68 (0, 0))) (h2 : L[5]? = some (gb, Obj.cells (rowV genL rest) 5 (0, 0))) (h3 : L[6]? = some (cb, Obj.cells #[.pointer (some ⟨fb, 0, none⟩), .slice (some ⟨gb, 0, none⟩) 5 (5 + rest.length)] 59 (0, 0))) => CodeAt.mk3 h h1 h2 h3)
  gi_upto_region 2 with fail
  refine wpIn_region_heldL 2 (atD [[], [0]]) (atV [fun vH _ => vH = .pointer (some ⟨cb, 0, none⟩), fun vH _ => vH = .bool false]) BelowR (by kernel_rfl) BelowR.trans (BelowR.refl _)
    (StV.atV (.const _ (.const _ .nil)))
    ⟨?o6x0, ?o6x1, trivial⟩ ?_
  case o6x0 =>
    exact held_move free_wide rfl BelowR.refl (.tmp 9) (.inl rfl) fun xH w' kH _ => (pO (by kernel_rfl) rfl)
  case o6x1 =>
    exact held_run free_wide rfl (by rfl) BelowR.refl fun xH w' kH hR => ⟨_, run_binO rfl (pT 0 (by kernel_rfl) (by kernel_rfl) (kH 0 (by decide))) rfl (by kernel_rfl), rfl⟩
  intro xH w' hv hR
  have h0 : xH 0 = _ := hv 0 (by omega)
  have h1 : xH 1 = _ := hv 1 (by omega)
  simp only [List.take_succ_cons, List.take_zero, List.drop_succ_cons, List.drop_zero, putsH, Act.put, List.setIfInBounds_toArray, List.set_cons_succ, List.set_cons_zero, h0, h1]
  have OW2 := Lib.hid (OW.out.step hR)
  clear hv hR OW OZ h0 h1
  have OW := OW2
  clear OW2
  obtain ⟨g7, OZ⟩ := own_size OW HB0
  gi_wp2_with (first | (refine onlyD 20 rfl ?_; refine own_loadRowV 20 0 32 (.tmp 4) rfl rfl rfl rfl rfl _ Try.underlying32 rfl (arJ32 (show (d).length = 32 from HD.out)) OW ?_; simp only [Act.put, List.setIfInBounds_toArray, List.set_cons_succ, List.set_cons_zero]) | (refine onlyD 21 rfl ?_; refine own_loadRowV 21 1 24 (.tmp 5) rfl rfl rfl rfl rfl _ Try.underlying24 rfl (arJ3 (show (v).length = 3 from HV.out)) OW ?_; simp only [Act.put, List.setIfInBounds_toArray, List.set_cons_succ, List.set_cons_zero]))
  refine ⟨trivial, ?_⟩
  refine (callsIn_wide.2 (word_any cb fb d v (HD.out) (HV.out) _ (HCODE.out _ _ OW.out rfl rfl rfl))).mono ?_
  rintro e Wg8 ⟨rfl, hbw⟩
  obtain ⟨g8, OW2, OZ2⟩ := own_call OW OZ hbw
  clear hbw OW OZ
  have OW := OW2
  have OZ := OZ2
  clear OW2 OZ2
  gi_upto_region 6 with (first | (refine onlyD 10 rfl ?_; refine own_allocV 10 23 rfl rfl rfl (rawV (List.replicate 36 0)) al36 OW OZ ?_; clear OW OZ; intro W g9 OW OZ; simp only [Act.put, List.setIfInBounds_toArray, List.set_cons_succ, List.set_cons_zero]) | (refine onlyO (.store 23 (.tmp 10) (.tmp 22)) rfl ?_; refine own_storeRow 7 23 (.tmp 10) (.tmp 22) rfl rfl rfl rfl (rawV (wordL d v)) rfl (by rw [rawV_size, rawV_size, (show ((wordL d v)).length = 36 by simp only [wordL_len, synL_len, decL_len, wD_len, vD_len, List.length_set, HD.out, HV.out, HB.out]), (show ((List.replicate 36 0) : List UInt8).length = 36 from List.length_replicate)]) (rawV_one _) (arJ36 (show ((wordL d v)).length = 36 by simp only [wordL_len, synL_len, decL_len, wD_len, vD_len, List.length_set, HD.out, HV.out, HB.out])) _ rfl OW OZ ?_; clear OW OZ; intro W OW OZ; simp only [Act.put, List.setIfInBounds_toArray, List.set_cons_succ, List.set_cons_zero]))
  refine wpIn_region_heldL 2 (atD [[], []]) (atV [fun vH _ => vH = .agg #[.int .i64 x0, .int .i64 x1, .int .i64 x2], fun vH _ => vH = .int .i64 0]) BelowR (by kernel_rfl) BelowR.trans (BelowR.refl _)
    (StV.atV (.const _ (.const _ .nil)))
    ⟨?o10x0, ?o10x1, trivial⟩ ?_
  case o10x0 =>
    exact held_load free_wide rfl BelowR.refl 41 (.tmp 6) rfl fun xH w' kH hR => ⟨_, _, (pO (by kernel_rfl) rfl), ldS OW hR 2 rfl 3 rfl Try.underlying41 rfl rfl (by kernel_rfl), rfl⟩
  case o10x1 =>
    exact held_move free_wide rfl BelowR.refl (.const (.int .i64 0)) (.inl rfl) fun xH w' kH _ => rfl
  intro xH w' hv hR
  have h0 : xH 0 = _ := hv 0 (by omega)
  have h1 : xH 1 = _ := hv 1 (by omega)
  simp only [List.take_succ_cons, List.take_zero, List.drop_succ_cons, List.drop_zero, putsH, Act.put, List.setIfInBounds_toArray, List.set_cons_succ, List.set_cons_zero, h0, h1]
  have OW2 := Lib.hid (OW.out.step hR)
  clear hv hR OW OZ h0 h1
  have OW := OW2
  clear OW2
  obtain ⟨g11, OZ⟩ := own_size OW HB0
  gi_wp2
  gi_loopw [11, 24] (fun z11 z24 wr => ∃ k : Nat, k ≤ 3 ∧ z11 = .int .i64 ((cntD x0 x1 x2 b k : Nat) : Int) ∧ z24 = .int .i64 (k : Int) ∧ Own b0 w [(b0, Obj.cells (rawV d) 32 (0, 0)), (g1, Obj.cells (rawV (vD v x0 x1 x2 b k)) 24 (0, 0)), (g2, Obj.cells (#[.int .i64 x0, .int .i64 x1, .int .i64 x2]) 41 (0, 0)), (g3, Obj.cells (rawV b) 24 (0, 0)), (fb, Obj.cells (fieldCells) 68 (0, 0)), (gb, Obj.cells (rowV genL rest) 5 (0, 0)), (cb, Obj.cells (#[.pointer (some ⟨fb, 0, none⟩), .slice (some ⟨gb, 0, none⟩) 5 (5 + rest.length)]) 59 (0, 0)), (g8, Obj.cells (rawV (wD d v x0 x1 x2 b k)) 23 (0, 0))] wr) (fun z11 z24 _ => 3 - (intOf z24).toNat)
  case atStart => exact ⟨0, by omega, rfl, rfl, (by rw [vD_zero HV.out, wD_zero HD.out]; exact OW.out)⟩
  case round =>
    obtain ⟨k, hk13, rfl, rfl, hO⟩ := hrel
    clear OW OZ
    have OW := Lib.hid hO
    obtain ⟨g12, OZ⟩ := own_size OW HB0
    clear hO
    have hcn := cnt_le x0 x1 x2 b k
    gi_upto_region 7 with fail
    obtain ⟨eo140, qeo140⟩ : ∃ e, (decide ((k : Int) < 3)) = e := ⟨_, rfl⟩
    refine wpIn_region_heldL 1 (atD [[]]) (atV [fun vH _ => vH = .bool eo140]) BelowR (by kernel_rfl) BelowR.trans (BelowR.refl _)
      (StV.atV (.const _ .nil))
      ⟨?o14x0, trivial⟩ ?_
    case o14x0 =>
      exact held_run free_wide rfl (by rfl) BelowR.refl fun xH w' kH hR => ⟨_, run_binO rfl (pO (by kernel_rfl) rfl) rfl bin_lss, (congrArg Value.bool qeo140)⟩
    intro xH w' hv hR
    subst qeo140
    have h0 : xH 0 = _ := hv 0 (by omega)
    simp only [List.take_succ_cons, List.take_zero, List.drop_succ_cons, List.drop_zero, putsH, Act.put, List.setIfInBounds_toArray, List.set_cons_succ, List.set_cons_zero, h0]
    have OW2 := Lib.hid (OW.out.step hR)
    clear hv hR OW OZ h0
    have OW := OW2
    clear OW2
    obtain ⟨g15, OZ⟩ := own_size OW HB0
    cases hB16 : (decide ((k : Int) < 3))
    case true =>
      have dhB16 := of_decide_eq_true hB16
      gi_upto_region 8 with fail
      refine wpIn_region_heldL 4 (atD [[], [], [0], [1]]) (atV [fun vH _ => vH = .int .i64 (k : Int), fun vH _ => vH = .int .i64 (atX x0 x1 x2 k), fun vH _ => vH = .int .i64 (k : Int), fun vH _ => vH = .int .i64 (atX x0 x1 x2 k)]) BelowR (by kernel_rfl) BelowR.trans (BelowR.refl _)
        (StV.atV (.const _ (.const _ (.const _ (.const _ .nil)))))
        ⟨?o17x0, ?o17x1, ?o17x2, ?o17x3, trivial⟩ ?_
      case o17x0 =>
        exact held_move free_wide rfl BelowR.refl (.tmp 24) (.inl rfl) fun xH w' kH _ => (pO (by kernel_rfl) rfl)
      case o17x1 =>
        exact held_run free_wide rfl (by rfl) BelowR.refl fun xH w' kH hR => ⟨_, run_indO (vx := .agg #[.int .i64 x0, .int .i64 x1, .int .i64 x2]) (vi := .int .i64 (k : Int)) rfl (pO (by kernel_rfl) rfl) (pO (by kernel_rfl) rfl) (ixI3 _ _ _ k (by omega) _), rfl⟩
      case o17x2 =>
        exact held_move free_wide rfl BelowR.refl (.tmp 26) (.inr rfl) fun xH w' kH _ => (pT 0 (by kernel_rfl) (by kernel_rfl) (kH 0 (by decide)))
      case o17x3 =>
        exact held_move free_wide rfl BelowR.refl (.tmp 27) (.inr rfl) fun xH w' kH _ => (pT 1 (by kernel_rfl) (by kernel_rfl) (kH 1 (by decide)))
      intro xH w' hv hR
      have h0 : xH 0 = _ := hv 0 (by omega)
      have h1 : xH 1 = _ := hv 1 (by omega)
      have h2 : xH 2 = _ := hv 2 (by omega)
      have h3 : xH 3 = _ := hv 3 (by omega)
      simp only [List.take_succ_cons, List.take_zero, List.drop_succ_cons, List.drop_zero, putsH, Act.put, List.setIfInBounds_toArray, List.set_cons_succ, List.set_cons_zero, h0, h1, h2, h3]
      have OW2 := Lib.hid (OW.out.step hR)
      clear hv hR OW OZ h0 h1 h2 h3
      have OW := OW2
      clear OW2
      obtain ⟨g18, OZ⟩ := own_size OW HB0
      gi_upto_region 9 with fail
      obtain ⟨eo191, qeo191⟩ : ∃ e, (decide ((atX x0 x1 x2 k) < 0)) = e := ⟨_, rfl⟩
      obtain ⟨eo194, qeo194⟩ : ∃ e, (decide (38 < (atX x0 x1 x2 k))) = e := ⟨_, rfl⟩
      obtain ⟨eo195, qeo195⟩ : ∃ e, (eo191 || eo194) = e := ⟨_, rfl⟩
      obtain ⟨eo1910, qeo1910⟩ : ∃ e, (((b.getD k 0).toNat : Int) == 0) = e := ⟨_, rfl⟩
      obtain ⟨eo1911, qeo1911⟩ : ∃ e, (eo195 || eo1910) = e := ⟨_, rfl⟩
      obtain ⟨eo1914, qeo1914⟩ : ∃ e, (decide (0 < (k : Int))) = e := ⟨_, rfl⟩
      obtain ⟨eo1919, qeo1919⟩ : ∃ e, ((atX x0 x1 x2 k) == x0) = e := ⟨_, rfl⟩
      obtain ⟨eo1920, qeo1920⟩ : ∃ e, (eo1914 && eo1919) = e := ⟨_, rfl⟩
      obtain ⟨eo1921, qeo1921⟩ : ∃ e, (eo1911 || eo1920) = e := ⟨_, rfl⟩
      obtain ⟨eo1924, qeo1924⟩ : ∃ e, (decide (1 < (k : Int))) = e := ⟨_, rfl⟩
      obtain ⟨eo1929, qeo1929⟩ : ∃ e, ((atX x0 x1 x2 k) == x1) = e := ⟨_, rfl⟩
      obtain ⟨eo1930, qeo1930⟩ : ∃ e, (eo1924 && eo1929) = e := ⟨_, rfl⟩
      obtain ⟨eo1931, qeo1931⟩ : ∃ e, (eo1921 || eo1930) = e := ⟨_, rfl⟩
      refine wpIn_region_heldL 32 (atD [[], [0], [1], [2], [2, 3], [2, 4], [5], [6], [6, 7], [6, 8], [6, 9], [6, 10], [11], [12], [12, 13], [12, 14], [15], [15], [15, 17], [15, 16, 18], [12, 15, 19], [12, 20], [21], [22], [22, 23], [22, 24], [25], [25], [25, 27], [25, 26, 28], [22, 25, 29], [22, 30]]) (atV [fun vH _ => vH = .int .i64 (atX x0 x1 x2 k), fun vH _ => vH = .bool eo191, fun vH _ => vH = .bool eo191, cdV (True ∧ eo191 = false) (fun vH _ => vH = .int .i64 (atX x0 x1 x2 k)), cdV (True ∧ eo191 = false) (fun vH _ => vH = .bool eo194), fun vH _ => vH = .bool eo195, fun vH _ => vH = .bool eo195, cdV (True ∧ eo195 = false) (fun vH _ => vH = .int .i64 (k : Int)), cdV (True ∧ eo195 = false) (fun vH _ => vH = .pointer (some ⟨g3, k, none⟩)), cdV (True ∧ eo195 = false) (fun vH _ => vH = .int .u8 ((b.getD k 0).toNat : Int)), cdV (True ∧ eo195 = false) (fun vH _ => vH = .bool eo1910), fun vH _ => vH = .bool eo1911, fun vH _ => vH = .bool eo1911, cdV (True ∧ eo1911 = false) (fun vH _ => vH = .int .i64 (k : Int)), cdV (True ∧ eo1911 = false) (fun vH _ => vH = .bool eo1914), cdV (True ∧ eo1911 = false) (fun vH _ => vH = .bool eo1914), cdV ((True ∧ eo1911 = false) ∧ eo1914 = true) (fun vH _ => vH = .int .i64 (atX x0 x1 x2 k)), cdV ((True ∧ eo1911 = false) ∧ eo1914 = true) (fun vH _ => vH = .pointer (some ⟨g2, 0, none⟩)), cdV ((True ∧ eo1911 = false) ∧ eo1914 = true) (fun vH _ => vH = .int .i64 x0), cdV ((True ∧ eo1911 = false) ∧ eo1914 = true) (fun vH _ => vH = .bool eo1919), cdV (True ∧ eo1911 = false) (fun vH _ => vH = .bool eo1920), fun vH _ => vH = .bool eo1921, fun vH _ => vH = .bool eo1921, cdV (True ∧ eo1921 = false) (fun vH _ => vH = .int .i64 (k : Int)), cdV (True ∧ eo1921 = false) (fun vH _ => vH = .bool eo1924), cdV (True ∧ eo1921 = false) (fun vH _ => vH = .bool eo1924), cdV ((True ∧ eo1921 = false) ∧ eo1924 = true) (fun vH _ => vH = .int .i64 (atX x0 x1 x2 k)), cdV ((True ∧ eo1921 = false) ∧ eo1924 = true) (fun vH _ => vH = .pointer (some ⟨g2, 1, none⟩)), cdV ((True ∧ eo1921 = false) ∧ eo1924 = true) (fun vH _ => vH = .int .i64 x1), cdV ((True ∧ eo1921 = false) ∧ eo1924 = true) (fun vH _ => vH = .bool eo1929), cdV (True ∧ eo1921 = false) (fun vH _ => vH = .bool eo1930), fun vH _ => vH = .bool eo1931]) BelowR (by kernel_rfl) BelowR.trans (BelowR.refl _)
        (StV.atV (.const _ (.const _ (.const _ (.cons (fun v x y h _ => h) (.cons (fun v x y h _ => h) (.const _ (.const _ (.cons (fun v x y h _ => h) (.cons (fun v x y h _ => h) (.cons (fun v x y h _ => h) (.cons (fun v x y h _ => h) (.const _ (.const _ (.cons (fun v x y h _ => h) (.cons (fun v x y h _ => h) (.cons (fun v x y h _ => h) (.cons (fun v x y h _ => h) (.cons (fun v x y h _ => h) (.cons (fun v x y h _ => h) (.cons (fun v x y h _ => h) (.cons (fun v x y h _ => h) (.const _ (.const _ (.cons (fun v x y h _ => h) (.cons (fun v x y h _ => h) (.cons (fun v x y h _ => h) (.cons (fun v x y h _ => h) (.cons (fun v x y h _ => h) (.cons (fun v x y h _ => h) (.cons (fun v x y h _ => h) (.cons (fun v x y h _ => h) (.const _ .nil)))))))))))))))))))))))))))))))))
        ⟨?o19x0, ?o19x1, ?o19x2, ?o19x3, ?o19x4, ?o19x5, ?o19x6, ?o19x7, ?o19x8, ?o19x9, ?o19x10, ?o19x11, ?o19x12, ?o19x13, ?o19x14, ?o19x15, ?o19x16, ?o19x17, ?o19x18, ?o19x19, ?o19x20, ?o19x21, ?o19x22, ?o19x23, ?o19x24, ?o19x25, ?o19x26, ?o19x27, ?o19x28, ?o19x29, ?o19x30, ?o19x31, trivial⟩ ?_
      case o19x0 =>
        exact held_move free_wide rfl BelowR.refl (.tmp 13) (.inl rfl) fun xH w' kH _ => (pO (by kernel_rfl) rfl)
      case o19x1 =>
        exact held_run free_wide rfl (by rfl) BelowR.refl fun xH w' kH hR => ⟨_, run_binO rfl (pT 0 (by kernel_rfl) (by kernel_rfl) (kH 0 (by decide))) rfl bin_lss, (congrArg Value.bool qeo191)⟩
      case o19x2 =>
        exact held_move free_wide rfl BelowR.refl (.tmp 29) (.inl rfl) fun xH w' kH _ => (pT 1 (by kernel_rfl) (by kernel_rfl) (kH 1 (by decide)))
      case o19x3 =>
        refine held_guard free_wide 2 30 false True eo191 BelowR.refl rfl (by kernel_rfl) (by kernel_rfl) (by kernel_rfl) (fun xH w' kH => .inl ⟨trivial, kH 2 (by decide)⟩) (fun hC hG => ?_) (fun hN w' => .inr ⟨hN, rfl⟩)
        exact held_moveG free_wide hG BelowR.refl (.tmp 13) (.inl rfl) fun xH w' kH _ => .inl ⟨hC, (pO (by kernel_rfl) rfl)⟩
      case o19x4 =>
        refine held_guard free_wide 2 30 false True eo191 BelowR.refl rfl (by kernel_rfl) (by kernel_rfl) (by kernel_rfl) (fun xH w' kH => .inl ⟨trivial, kH 2 (by decide)⟩) (fun hC hG => ?_) (fun hN w' => .inr ⟨hN, rfl⟩)
        exact held_runG free_wide hG (by rfl) BelowR.refl fun xH w' kH hR => ⟨_, run_binO rfl (pT 3 (by kernel_rfl) (by kernel_rfl) (cdAt (kH 3 (by decide)) rfl hC)) rfl bin_gtr, (.inl ⟨hC, congrArg Value.bool qeo194⟩)⟩
      case o19x5 =>
        exact held_run free_wide rfl (by rfl) BelowR.refl fun xH w' kH hR => ⟨_, run_pickOr rfl (pT 2 (by kernel_rfl) (by kernel_rfl) (kH 2 (by decide))) rfl (fun h => pT 4 (by kernel_rfl) (by kernel_rfl) (cdAt (kH 4 (by decide)) rfl (And.intro trivial h))), (congrArg Value.bool qeo195)⟩
      case o19x6 =>
        exact held_move free_wide rfl BelowR.refl (.tmp 33) (.inl rfl) fun xH w' kH _ => (pT 5 (by kernel_rfl) (by kernel_rfl) (kH 5 (by decide)))
      case o19x7 =>
        refine held_guard free_wide 6 34 false True eo195 BelowR.refl rfl (by kernel_rfl) (by kernel_rfl) (by kernel_rfl) (fun xH w' kH => .inl ⟨trivial, kH 6 (by decide)⟩) (fun hC hG => ?_) (fun hN w' => .inr ⟨hN, rfl⟩)
        exact held_moveG free_wide hG BelowR.refl (.tmp 12) (.inl rfl) fun xH w' kH _ => .inl ⟨hC, (pO (by kernel_rfl) rfl)⟩
      case o19x8 =>
        refine held_guard free_wide 6 34 false True eo195 BelowR.refl rfl (by kernel_rfl) (by kernel_rfl) (by kernel_rfl) (fun xH w' kH => .inl ⟨trivial, kH 6 (by decide)⟩) (fun hC hG => ?_) (fun hN w' => .inr ⟨hN, rfl⟩)
        exact held_runG free_wide hG (by rfl) BelowR.refl fun xH w' kH hR => ⟨_, run_idxO (vx := .pointer (some ⟨g3, 0, none⟩)) (vi := .int .i64 (k : Int)) rfl (pO (by kernel_rfl) rfl) (pT 7 (by kernel_rfl) (by kernel_rfl) (cdAt (kH 7 (by decide)) rfl hC)) (arX3 _ k (by omega) _), (.inl ⟨hC, rfl⟩)⟩
      case o19x9 =>
        refine held_guard free_wide 6 34 false True eo195 BelowR.refl rfl (by kernel_rfl) (by kernel_rfl) (by kernel_rfl) (fun xH w' kH => .inl ⟨trivial, kH 6 (by decide)⟩) (fun hC hG => ?_) (fun hN w' => .inr ⟨hN, rfl⟩)
        exact held_loadG free_wide hG BelowR.refl 5 (.tmp 36) rfl fun xH w' kH hR => ⟨_, _, (pT 8 (by kernel_rfl) (by kernel_rfl) (cdAt (kH 8 (by decide)) rfl hC)), ldC OW hR 3 rfl (rawV_get _ (by rw [(show (b).length = 3 from HB.out)]; omega)) naU8, (.inl ⟨hC, rfl⟩)⟩
      case o19x10 =>
        refine held_guard free_wide 6 34 false True eo195 BelowR.refl rfl (by kernel_rfl) (by kernel_rfl) (by kernel_rfl) (fun xH w' kH => .inl ⟨trivial, kH 6 (by decide)⟩) (fun hC hG => ?_) (fun hN w' => .inr ⟨hN, rfl⟩)
        exact held_runG free_wide hG (by rfl) BelowR.refl fun xH w' kH hR => ⟨_, run_binO rfl (pT 9 (by kernel_rfl) (by kernel_rfl) (cdAt (kH 9 (by decide)) rfl hC)) rfl bin_eql, (.inl ⟨hC, congrArg Value.bool qeo1910⟩)⟩
      case o19x11 =>
        exact held_run free_wide rfl (by rfl) BelowR.refl fun xH w' kH hR => ⟨_, run_pickOr rfl (pT 6 (by kernel_rfl) (by kernel_rfl) (kH 6 (by decide))) rfl (fun h => pT 10 (by kernel_rfl) (by kernel_rfl) (cdAt (kH 10 (by decide)) rfl (And.intro trivial h))), (congrArg Value.bool qeo1911)⟩
      case o19x12 =>
        exact held_move free_wide rfl BelowR.refl (.tmp 39) (.inl rfl) fun xH w' kH _ => (pT 11 (by kernel_rfl) (by kernel_rfl) (kH 11 (by decide)))
      case o19x13 =>
        refine held_guard free_wide 12 40 false True eo1911 BelowR.refl rfl (by kernel_rfl) (by kernel_rfl) (by kernel_rfl) (fun xH w' kH => .inl ⟨trivial, kH 12 (by decide)⟩) (fun hC hG => ?_) (fun hN w' => .inr ⟨hN, rfl⟩)
        exact held_moveG free_wide hG BelowR.refl (.tmp 12) (.inl rfl) fun xH w' kH _ => .inl ⟨hC, (pO (by kernel_rfl) rfl)⟩
      case o19x14 =>
        refine held_guard free_wide 12 40 false True eo1911 BelowR.refl rfl (by kernel_rfl) (by kernel_rfl) (by kernel_rfl) (fun xH w' kH => .inl ⟨trivial, kH 12 (by decide)⟩) (fun hC hG => ?_) (fun hN w' => .inr ⟨hN, rfl⟩)
        exact held_runG free_wide hG (by rfl) BelowR.refl fun xH w' kH hR => ⟨_, run_binO rfl (pT 13 (by kernel_rfl) (by kernel_rfl) (cdAt (kH 13 (by decide)) rfl hC)) rfl bin_gtr, (.inl ⟨hC, congrArg Value.bool qeo1914⟩)⟩
      case o19x15 =>
        refine held_guard free_wide 12 40 false True eo1911 BelowR.refl rfl (by kernel_rfl) (by kernel_rfl) (by kernel_rfl) (fun xH w' kH => .inl ⟨trivial, kH 12 (by decide)⟩) (fun hC hG => ?_) (fun hN w' => .inr ⟨hN, rfl⟩)
        exact held_moveG free_wide hG BelowR.refl (.tmp 42) (.inl rfl) fun xH w' kH _ => .inl ⟨hC, (pT 14 (by kernel_rfl) (by kernel_rfl) (cdAt (kH 14 (by decide)) rfl hC))⟩
      case o19x16 =>
        refine held_guard free_wide 15 43 true (True ∧ eo1911 = false) eo1914 BelowR.refl rfl (by kernel_rfl) (by kernel_rfl) (by kernel_rfl) (fun xH w' kH => kH 15 (by decide)) (fun hC hG => ?_) (fun hN w' => .inr ⟨hN, rfl⟩)
        exact held_moveG free_wide hG BelowR.refl (.tmp 13) (.inl rfl) fun xH w' kH _ => .inl ⟨hC, (pO (by kernel_rfl) rfl)⟩
      case o19x17 =>
        refine held_guard free_wide 15 43 true (True ∧ eo1911 = false) eo1914 BelowR.refl rfl (by kernel_rfl) (by kernel_rfl) (by kernel_rfl) (fun xH w' kH => kH 15 (by decide)) (fun hC hG => ?_) (fun hN w' => .inr ⟨hN, rfl⟩)
        exact held_runG free_wide hG (by rfl) BelowR.refl fun xH w' kH hR => ⟨_, run_idxO rfl (pO (by kernel_rfl) rfl) rfl (by kernel_rfl), (.inl ⟨hC, rfl⟩)⟩
      case o19x18 =>
        refine held_guard free_wide 15 43 true (True ∧ eo1911 = false) eo1914 BelowR.refl rfl (by kernel_rfl) (by kernel_rfl) (by kernel_rfl) (fun xH w' kH => kH 15 (by decide)) (fun hC hG => ?_) (fun hN w' => .inr ⟨hN, rfl⟩)
        exact held_loadG free_wide hG BelowR.refl 3 (.tmp 45) rfl fun xH w' kH hR => ⟨_, _, (pT 17 (by kernel_rfl) (by kernel_rfl) (cdAt (kH 17 (by decide)) rfl hC)), ldC OW hR 2 rfl rfl naInt, (.inl ⟨hC, rfl⟩)⟩
      case o19x19 =>
        refine held_guard free_wide 15 43 true (True ∧ eo1911 = false) eo1914 BelowR.refl rfl (by kernel_rfl) (by kernel_rfl) (by kernel_rfl) (fun xH w' kH => kH 15 (by decide)) (fun hC hG => ?_) (fun hN w' => .inr ⟨hN, rfl⟩)
        exact held_runG free_wide hG (by rfl) BelowR.refl fun xH w' kH hR => ⟨_, run_binO rfl (pT 16 (by kernel_rfl) (by kernel_rfl) (cdAt (kH 16 (by decide)) rfl hC)) (pT 18 (by kernel_rfl) (by kernel_rfl) (cdAt (kH 18 (by decide)) rfl hC)) bin_eql, (.inl ⟨hC, congrArg Value.bool qeo1919⟩)⟩
      case o19x20 =>
        refine held_guard free_wide 12 40 false True eo1911 BelowR.refl rfl (by kernel_rfl) (by kernel_rfl) (by kernel_rfl) (fun xH w' kH => .inl ⟨trivial, kH 12 (by decide)⟩) (fun hC hG => ?_) (fun hN w' => .inr ⟨hN, rfl⟩)
        exact held_runG free_wide hG (by rfl) BelowR.refl fun xH w' kH hR => ⟨_, run_pickAnd rfl (pT 15 (by kernel_rfl) (by kernel_rfl) (cdAt (kH 15 (by decide)) rfl hC)) rfl (fun h => pT 19 (by kernel_rfl) (by kernel_rfl) (cdAt (kH 19 (by decide)) rfl (And.intro hC h))), (.inl ⟨hC, congrArg Value.bool qeo1920⟩)⟩
      case o19x21 =>
        exact held_run free_wide rfl (by rfl) BelowR.refl fun xH w' kH hR => ⟨_, run_pickOr rfl (pT 12 (by kernel_rfl) (by kernel_rfl) (kH 12 (by decide))) rfl (fun h => pT 20 (by kernel_rfl) (by kernel_rfl) (cdAt (kH 20 (by decide)) rfl (And.intro trivial h))), (congrArg Value.bool qeo1921)⟩
      case o19x22 =>
        exact held_move free_wide rfl BelowR.refl (.tmp 49) (.inl rfl) fun xH w' kH _ => (pT 21 (by kernel_rfl) (by kernel_rfl) (kH 21 (by decide)))
      case o19x23 =>
        refine held_guard free_wide 22 50 false True eo1921 BelowR.refl rfl (by kernel_rfl) (by kernel_rfl) (by kernel_rfl) (fun xH w' kH => .inl ⟨trivial, kH 22 (by decide)⟩) (fun hC hG => ?_) (fun hN w' => .inr ⟨hN, rfl⟩)
        exact held_moveG free_wide hG BelowR.refl (.tmp 12) (.inl rfl) fun xH w' kH _ => .inl ⟨hC, (pO (by kernel_rfl) rfl)⟩
      case o19x24 =>
        refine held_guard free_wide 22 50 false True eo1921 BelowR.refl rfl (by kernel_rfl) (by kernel_rfl) (by kernel_rfl) (fun xH w' kH => .inl ⟨trivial, kH 22 (by decide)⟩) (fun hC hG => ?_) (fun hN w' => .inr ⟨hN, rfl⟩)
        exact held_runG free_wide hG (by rfl) BelowR.refl fun xH w' kH hR => ⟨_, run_binO rfl (pT 23 (by kernel_rfl) (by kernel_rfl) (cdAt (kH 23 (by decide)) rfl hC)) rfl bin_gtr, (.inl ⟨hC, congrArg Value.bool qeo1924⟩)⟩
      case o19x25 =>
        refine held_guard free_wide 22 50 false True eo1921 BelowR.refl rfl (by kernel_rfl) (by kernel_rfl) (by kernel_rfl) (fun xH w' kH => .inl ⟨trivial, kH 22 (by decide)⟩) (fun hC hG => ?_) (fun hN w' => .inr ⟨hN, rfl⟩)
        exact held_moveG free_wide hG BelowR.refl (.tmp 52) (.inl rfl) fun xH w' kH _ => .inl ⟨hC, (pT 24 (by kernel_rfl) (by kernel_rfl) (cdAt (kH 24 (by decide)) rfl hC))⟩
      case o19x26 =>
        refine held_guard free_wide 25 53 true (True ∧ eo1921 = false) eo1924 BelowR.refl rfl (by kernel_rfl) (by kernel_rfl) (by kernel_rfl) (fun xH w' kH => kH 25 (by decide)) (fun hC hG => ?_) (fun hN w' => .inr ⟨hN, rfl⟩)
        exact held_moveG free_wide hG BelowR.refl (.tmp 13) (.inl rfl) fun xH w' kH _ => .inl ⟨hC, (pO (by kernel_rfl) rfl)⟩
      case o19x27 =>
        refine held_guard free_wide 25 53 true (True ∧ eo1921 = false) eo1924 BelowR.refl rfl (by kernel_rfl) (by kernel_rfl) (by kernel_rfl) (fun xH w' kH => kH 25 (by decide)) (fun hC hG => ?_) (fun hN w' => .inr ⟨hN, rfl⟩)
        exact held_runG free_wide hG (by rfl) BelowR.refl fun xH w' kH hR => ⟨_, run_idxO rfl (pO (by kernel_rfl) rfl) rfl (by kernel_rfl), (.inl ⟨hC, rfl⟩)⟩
      case o19x28 =>
        refine held_guard free_wide 25 53 true (True ∧ eo1921 = false) eo1924 BelowR.refl rfl (by kernel_rfl) (by kernel_rfl) (by kernel_rfl) (fun xH w' kH => kH 25 (by decide)) (fun hC hG => ?_) (fun hN w' => .inr ⟨hN, rfl⟩)
        exact held_loadG free_wide hG BelowR.refl 3 (.tmp 55) rfl fun xH w' kH hR => ⟨_, _, (pT 27 (by kernel_rfl) (by kernel_rfl) (cdAt (kH 27 (by decide)) rfl hC)), ldC OW hR 2 rfl rfl naInt, (.inl ⟨hC, rfl⟩)⟩
      case o19x29 =>
        refine held_guard free_wide 25 53 true (True ∧ eo1921 = false) eo1924 BelowR.refl rfl (by kernel_rfl) (by kernel_rfl) (by kernel_rfl) (fun xH w' kH => kH 25 (by decide)) (fun hC hG => ?_) (fun hN w' => .inr ⟨hN, rfl⟩)
        exact held_runG free_wide hG (by rfl) BelowR.refl fun xH w' kH hR => ⟨_, run_binO rfl (pT 26 (by kernel_rfl) (by kernel_rfl) (cdAt (kH 26 (by decide)) rfl hC)) (pT 28 (by kernel_rfl) (by kernel_rfl) (cdAt (kH 28 (by decide)) rfl hC)) bin_eql, (.inl ⟨hC, congrArg Value.bool qeo1929⟩)⟩
      case o19x30 =>
        refine held_guard free_wide 22 50 false True eo1921 BelowR.refl rfl (by kernel_rfl) (by kernel_rfl) (by kernel_rfl) (fun xH w' kH => .inl ⟨trivial, kH 22 (by decide)⟩) (fun hC hG => ?_) (fun hN w' => .inr ⟨hN, rfl⟩)
        exact held_runG free_wide hG (by rfl) BelowR.refl fun xH w' kH hR => ⟨_, run_pickAnd rfl (pT 25 (by kernel_rfl) (by kernel_rfl) (cdAt (kH 25 (by decide)) rfl hC)) rfl (fun h => pT 29 (by kernel_rfl) (by kernel_rfl) (cdAt (kH 29 (by decide)) rfl (And.intro hC h))), (.inl ⟨hC, congrArg Value.bool qeo1930⟩)⟩
      case o19x31 =>
        exact held_run free_wide rfl (by rfl) BelowR.refl fun xH w' kH hR => ⟨_, run_pickOr rfl (pT 22 (by kernel_rfl) (by kernel_rfl) (kH 22 (by decide))) rfl (fun h => pT 30 (by kernel_rfl) (by kernel_rfl) (cdAt (kH 30 (by decide)) rfl (And.intro trivial h))), (congrArg Value.bool qeo1931)⟩
      intro xH w' hv hR
      subst qeo1931 qeo1930 qeo1929 qeo1924 qeo1921 qeo1920 qeo1919 qeo1914 qeo1911 qeo1910 qeo195 qeo194 qeo191
      have h0 : xH 0 = _ := hv 0 (by omega)
      have h1 : xH 1 = _ := hv 1 (by omega)
      have h2 : xH 2 = _ := hv 2 (by omega)
      have h5 : xH 5 = _ := hv 5 (by omega)
      have h6 : xH 6 = _ := hv 6 (by omega)
      have h11 : xH 11 = _ := hv 11 (by omega)
      have h12 : xH 12 = _ := hv 12 (by omega)
      have h21 : xH 21 = _ := hv 21 (by omega)
      have h22 : xH 22 = _ := hv 22 (by omega)
      have h31 : xH 31 = _ := hv 31 (by omega)
      simp only [List.take_succ_cons, List.take_zero, List.drop_succ_cons, List.drop_zero, putsH, Act.put, List.setIfInBounds_toArray, List.set_cons_succ, List.set_cons_zero, h0, h1, h2, h5, h6, h11, h12, h21, h22, h31]
      have OW2 := Lib.hid (OW.out.step hR)
      clear hv hR OW OZ h0 h1 h2 h5 h6 h11 h12 h21 h22 h31
      have OW := OW2
      clear OW2
      obtain ⟨g20, OZ⟩ := own_size OW HB0
      cases hB21 : (((((decide ((atX x0 x1 x2 k) < 0)) || (decide (38 < (atX x0 x1 x2 k)))) || (((b.getD k 0).toNat : Int) == 0)) || ((decide (0 < (k : Int))) && ((atX x0 x1 x2 k) == x0))) || ((decide (1 < (k : Int))) && ((atX x0 x1 x2 k) == x1)))
      case true =>
        gi_wp2_with (first | (refine onlyD 81 rfl ?_; refine own_valV 81 rfl rfl rfl (.int .i64 ((k : Int) + 1)) (run_binO (vx := .int .i64 (k : Int)) (vy := .int .i64 1) rfl rfl rfl (bin_add_in (by omega) (by omega))) ?_; simp only [Act.put, List.setIfInBounds_toArray, List.set_cons_succ, List.set_cons_zero]))
        go_roundw
        case rel => exact ⟨k + 1, by omega, (by first | rw [cnt_skip (by assumption)] | (rw [cnt_take (by assumption)]; rfl)), by go_num, (by (first | rw [wD_skip (by assumption), vD_skip (by assumption)] | rw [wD_lo (by assumption) (by omega), vD_lo (by assumption) (by omega)] | rw [wD_hi (by assumption) (by omega), vD_hi (by assumption) (by omega)]); exact OW.out)⟩
        case measure => (simp [intOf] <;> omega)
      have hrng := range_D hB21
      gi_upto_region 11 with (first | (refine onlyD 61 rfl ?_; refine own_valV 61 rfl rfl rfl (.int .i64 (((cntD x0 x1 x2 b k : Nat) : Int) + 1)) (run_binO (vx := .int .i64 ((cntD x0 x1 x2 b k : Nat) : Int)) (vy := .int .i64 1) rfl rfl rfl (bin_add_in (by omega) (by omega))) ?_; simp only [Act.put, List.setIfInBounds_toArray, List.set_cons_succ, List.set_cons_zero]))
      obtain ⟨eo221, qeo221⟩ : ∃ e, (decide (35 < (atX x0 x1 x2 k))) = e := ⟨_, rfl⟩
      refine wpIn_region_heldL 2 (atD [[], [0]]) (atV [fun vH _ => vH = .int .i64 (atX x0 x1 x2 k), fun vH _ => vH = .bool eo221]) BelowR (by kernel_rfl) BelowR.trans (BelowR.refl _)
        (StV.atV (.const _ (.const _ .nil)))
        ⟨?o22x0, ?o22x1, trivial⟩ ?_
      case o22x0 =>
        exact held_move free_wide rfl BelowR.refl (.tmp 13) (.inl rfl) fun xH w' kH _ => (pO (by kernel_rfl) rfl)
      case o22x1 =>
        exact held_run free_wide rfl (by rfl) BelowR.refl fun xH w' kH hR => ⟨_, run_binO rfl (pT 0 (by kernel_rfl) (by kernel_rfl) (kH 0 (by decide))) rfl bin_gtr, (congrArg Value.bool qeo221)⟩
      intro xH w' hv hR
      subst qeo221
      have h0 : xH 0 = _ := hv 0 (by omega)
      have h1 : xH 1 = _ := hv 1 (by omega)
      simp only [List.take_succ_cons, List.take_zero, List.drop_succ_cons, List.drop_zero, putsH, Act.put, List.setIfInBounds_toArray, List.set_cons_succ, List.set_cons_zero, h0, h1]
      have OW2 := Lib.hid (OW.out.step hR)
      clear hv hR OW OZ h0 h1
      have OW := OW2
      clear OW2
      obtain ⟨g23, OZ⟩ := own_size OW HB0
      cases hB24 : (decide (35 < (atX x0 x1 x2 k)))
      case true =>
        have dhB24 := of_decide_eq_true hB24
        gi_upto_region 12 with fail
        refine wpIn_region_held 9 (atD [[], [0], [1], [2], [], [4], [5], [3, 6], [1]]) (atV [fun vH _ => vH = .int .i64 (atX x0 x1 x2 k), fun vH _ => vH = .int .i64 ((atX x0 x1 x2 k) - 36), fun vH _ => vH = .pointer (some ⟨g1, (atX x0 x1 x2 k - 36).toNat, none⟩), fun vH _ => vH = .int .u8 (((vD v x0 x1 x2 b k).getD ((atX x0 x1 x2 k - 36).toNat) 0).toNat : Int), fun vH _ => vH = .int .i64 (k : Int), fun vH _ => vH = .pointer (some ⟨g3, k, none⟩), fun vH _ => vH = .int .u8 ((b.getD k 0).toNat : Int), fun vH _ => vH = .int .u8 ((((vD v x0 x1 x2 b k).getD ((atX x0 x1 x2 k - 36).toNat) 0) ^^^ (b.getD k 0)).toNat : Int), fun vH _ => vH = .pointer (some ⟨g1, (atX x0 x1 x2 k - 36).toNat, none⟩)]) BelowR (by kernel_rfl) (by kernel_rfl) BelowR.trans (BelowR.drew _)
          (StV.atV (.const _ (.const _ (.const _ (.const _ (.const _ (.const _ (.const _ (.const _ (.const _ .nil))))))))))
          ⟨?o25x0, ?o25x1, ?o25x2, ?o25x3, ?o25x4, ?o25x5, ?o25x6, ?o25x7, ?o25x8, trivial⟩ ?_
        case o25x0 =>
          exact held_move free_wide rfl BelowR.refl (.tmp 13) (.inl rfl) fun xH w' kH _ => (pO (by kernel_rfl) rfl)
        case o25x1 =>
          exact held_run free_wide rfl (by rfl) BelowR.refl fun xH w' kH hR => ⟨_, run_binO rfl (pT 0 (by kernel_rfl) (by kernel_rfl) (kH 0 (by decide))) rfl (bin_sub_in (by omega) (by omega)), rfl⟩
        case o25x2 =>
          exact held_run free_wide rfl (by rfl) BelowR.refl fun xH w' kH hR => ⟨_, run_idxO (vx := .pointer (some ⟨g1, 0, none⟩)) (vi := .int .i64 ((atX x0 x1 x2 k) - 36)) rfl (pO (by kernel_rfl) rfl) (pT 1 (by kernel_rfl) (by kernel_rfl) (kH 1 (by decide))) (arX3I _ _ (by omega) (by omega) _), rfl⟩
        case o25x3 =>
          exact held_load free_wide rfl BelowR.refl 5 (.tmp 66) rfl fun xH w' kH hR => ⟨_, _, (pT 2 (by kernel_rfl) (by kernel_rfl) (kH 2 (by decide))), ldC OW hR 1 rfl (rawV_get _ (by rw [(show ((vD v x0 x1 x2 b k)).length = 3 by simp only [wordL_len, synL_len, decL_len, wD_len, vD_len, List.length_set, HD.out, HV.out, HB.out])]; omega)) naU8, rfl⟩
        case o25x4 =>
          exact held_move free_wide rfl BelowR.refl (.tmp 12) (.inl rfl) fun xH w' kH _ => (pO (by kernel_rfl) rfl)
        case o25x5 =>
          exact held_run free_wide rfl (by rfl) BelowR.refl fun xH w' kH hR => ⟨_, run_idxO (vx := .pointer (some ⟨g3, 0, none⟩)) (vi := .int .i64 (k : Int)) rfl (pO (by kernel_rfl) rfl) (pT 4 (by kernel_rfl) (by kernel_rfl) (kH 4 (by decide))) (arX3 _ k (by omega) _), rfl⟩
        case o25x6 =>
          exact held_load free_wide rfl BelowR.refl 5 (.tmp 69) rfl fun xH w' kH hR => ⟨_, _, (pT 5 (by kernel_rfl) (by kernel_rfl) (kH 5 (by decide))), ldC OW hR 3 rfl (rawV_get _ (by rw [(show (b).length = 3 from HB.out)]; omega)) naU8, rfl⟩
        case o25x7 =>
          exact held_run free_wide rfl (by rfl) BelowR.refl fun xH w' kH hR => ⟨_, run_binO rfl (pT 3 (by kernel_rfl) (by kernel_rfl) (kH 3 (by decide))) (pT 6 (by kernel_rfl) (by kernel_rfl) (kH 6 (by decide))) (bin_xor8), rfl⟩
        case o25x8 =>
          exact held_run free_wide rfl (by rfl) BelowR.refl fun xH w' kH hR => ⟨_, run_idxO (vx := .pointer (some ⟨g1, 0, none⟩)) (vi := .int .i64 ((atX x0 x1 x2 k) - 36)) rfl (pO (by kernel_rfl) rfl) (pT 1 (by kernel_rfl) (by kernel_rfl) (kH 1 (by decide))) (arX3I _ _ (by omega) (by omega) _), rfl⟩
        intro xH w' hv hR
        have h0 : xH 0 = _ := hv 0 (by omega)
        have h1 : xH 1 = _ := hv 1 (by omega)
        have h2 : xH 2 = _ := hv 2 (by omega)
        have h3 : xH 3 = _ := hv 3 (by omega)
        have h4 : xH 4 = _ := hv 4 (by omega)
        have h5 : xH 5 = _ := hv 5 (by omega)
        have h6 : xH 6 = _ := hv 6 (by omega)
        have h7 : xH 7 = _ := hv 7 (by omega)
        have h8 : xH 8 = _ := hv 8 (by omega)
        simp only [List.take_succ_cons, List.take_zero, List.drop_succ_cons, List.drop_zero, putsH, Act.put, List.setIfInBounds_toArray, List.set_cons_succ, List.set_cons_zero, h0, h1, h2, h3, h4, h5, h6, h7, h8]
        have OW2 := Lib.hid (OW.out.step hR)
        clear hv hR OW OZ h0 h1 h2 h3 h4 h5 h6 h7 h8
        have OW := OW2
        clear OW2
        obtain ⟨g26, OZ⟩ := own_size OW HB0
        gi_wp2_with (first | (refine onlyO (.store 5 (.tmp 72) (.tmp 71)) rfl ?_; refine own_store 1 5 (.tmp 72) (.tmp 71) rfl rfl rfl rfl (.int .u8 ((((vD v x0 x1 x2 b k).getD ((atX x0 x1 x2 k - 36).toNat) 0) ^^^ (b.getD k 0)).toNat : Int)) rfl (rawV ((vD v x0 x1 x2 b k).set ((atX x0 x1 x2 k - 36).toNat) (((vD v x0 x1 x2 b k).getD ((atX x0 x1 x2 k - 36).toNat) 0) ^^^ (b.getD k 0)))) (rawV_set _ _ (((vD v x0 x1 x2 b k).getD ((atX x0 x1 x2 k - 36).toNat) 0) ^^^ (b.getD k 0))) (by rw [rawV_size, (show ((vD v x0 x1 x2 b k)).length = 3 by simp only [wordL_len, synL_len, decL_len, wD_len, vD_len, List.length_set, HD.out, HV.out, HB.out])]; omega) rfl szU8 _ rfl OW OZ ?_; clear OW OZ; intro W OW OZ; simp only [Act.put, List.setIfInBounds_toArray, List.set_cons_succ, List.set_cons_zero]) | (refine onlyD 81 rfl ?_; refine own_valV 81 rfl rfl rfl (.int .i64 ((k : Int) + 1)) (run_binO (vx := .int .i64 (k : Int)) (vy := .int .i64 1) rfl rfl rfl (bin_add_in (by omega) (by omega))) ?_; simp only [Act.put, List.setIfInBounds_toArray, List.set_cons_succ, List.set_cons_zero]))
        go_roundw
        case rel => exact ⟨k + 1, by omega, (by first | rw [cnt_skip (by assumption)] | (rw [cnt_take (by assumption)]; rfl)), by go_num, (by (first | rw [wD_skip (by assumption), vD_skip (by assumption)] | rw [wD_lo (by assumption) (by omega), vD_lo (by assumption) (by omega)] | rw [wD_hi (by assumption) (by omega), vD_hi (by assumption) (by omega)]); exact OW.out)⟩
        case measure => (simp [intOf] <;> omega)
      have dhB24 := of_decide_eq_false hB24
      gi_upto_region 13 with fail
      refine wpIn_region_held 8 (atD [[], [0], [1], [], [3], [4], [2, 5], [0]]) (atV [fun vH _ => vH = .int .i64 (atX x0 x1 x2 k), fun vH _ => vH = .pointer (some ⟨g8, (atX x0 x1 x2 k).toNat, none⟩), fun vH _ => vH = .int .u8 (((wD d v x0 x1 x2 b k).getD ((atX x0 x1 x2 k).toNat) 0).toNat : Int), fun vH _ => vH = .int .i64 (k : Int), fun vH _ => vH = .pointer (some ⟨g3, k, none⟩), fun vH _ => vH = .int .u8 ((b.getD k 0).toNat : Int), fun vH _ => vH = .int .u8 ((((wD d v x0 x1 x2 b k).getD ((atX x0 x1 x2 k).toNat) 0) ^^^ (b.getD k 0)).toNat : Int), fun vH _ => vH = .pointer (some ⟨g8, (atX x0 x1 x2 k).toNat, none⟩)]) BelowR (by kernel_rfl) (by kernel_rfl) BelowR.trans (BelowR.drew _)
        (StV.atV (.const _ (.const _ (.const _ (.const _ (.const _ (.const _ (.const _ (.const _ .nil)))))))))
        ⟨?o27x0, ?o27x1, ?o27x2, ?o27x3, ?o27x4, ?o27x5, ?o27x6, ?o27x7, trivial⟩ ?_
      case o27x0 =>
        exact held_move free_wide rfl BelowR.refl (.tmp 13) (.inl rfl) fun xH w' kH _ => (pO (by kernel_rfl) rfl)
      case o27x1 =>
        exact held_run free_wide rfl (by rfl) BelowR.refl fun xH w' kH hR => ⟨_, run_idxO (vx := .pointer (some ⟨g8, 0, none⟩)) (vi := .int .i64 (atX x0 x1 x2 k)) rfl (pO (by kernel_rfl) rfl) (pT 0 (by kernel_rfl) (by kernel_rfl) (kH 0 (by decide))) (arX36I _ _ (by omega) (by omega) _), rfl⟩
      case o27x2 =>
        exact held_load free_wide rfl BelowR.refl 5 (.tmp 74) rfl fun xH w' kH hR => ⟨_, _, (pT 1 (by kernel_rfl) (by kernel_rfl) (kH 1 (by decide))), ldC OW hR 7 rfl (rawV_get _ (by rw [(show ((wD d v x0 x1 x2 b k)).length = 36 by simp only [wordL_len, synL_len, decL_len, wD_len, vD_len, List.length_set, HD.out, HV.out, HB.out])]; omega)) naU8, rfl⟩
      case o27x3 =>
        exact held_move free_wide rfl BelowR.refl (.tmp 12) (.inl rfl) fun xH w' kH _ => (pO (by kernel_rfl) rfl)
      case o27x4 =>
        exact held_run free_wide rfl (by rfl) BelowR.refl fun xH w' kH hR => ⟨_, run_idxO (vx := .pointer (some ⟨g3, 0, none⟩)) (vi := .int .i64 (k : Int)) rfl (pO (by kernel_rfl) rfl) (pT 3 (by kernel_rfl) (by kernel_rfl) (kH 3 (by decide))) (arX3 _ k (by omega) _), rfl⟩
      case o27x5 =>
        exact held_load free_wide rfl BelowR.refl 5 (.tmp 77) rfl fun xH w' kH hR => ⟨_, _, (pT 4 (by kernel_rfl) (by kernel_rfl) (kH 4 (by decide))), ldC OW hR 3 rfl (rawV_get _ (by rw [(show (b).length = 3 from HB.out)]; omega)) naU8, rfl⟩
      case o27x6 =>
        exact held_run free_wide rfl (by rfl) BelowR.refl fun xH w' kH hR => ⟨_, run_binO rfl (pT 2 (by kernel_rfl) (by kernel_rfl) (kH 2 (by decide))) (pT 5 (by kernel_rfl) (by kernel_rfl) (kH 5 (by decide))) (bin_xor8), rfl⟩
      case o27x7 =>
        exact held_run free_wide rfl (by rfl) BelowR.refl fun xH w' kH hR => ⟨_, run_idxO (vx := .pointer (some ⟨g8, 0, none⟩)) (vi := .int .i64 (atX x0 x1 x2 k)) rfl (pO (by kernel_rfl) rfl) (pT 0 (by kernel_rfl) (by kernel_rfl) (kH 0 (by decide))) (arX36I _ _ (by omega) (by omega) _), rfl⟩
      intro xH w' hv hR
      have h0 : xH 0 = _ := hv 0 (by omega)
      have h1 : xH 1 = _ := hv 1 (by omega)
      have h2 : xH 2 = _ := hv 2 (by omega)
      have h3 : xH 3 = _ := hv 3 (by omega)
      have h4 : xH 4 = _ := hv 4 (by omega)
      have h5 : xH 5 = _ := hv 5 (by omega)
      have h6 : xH 6 = _ := hv 6 (by omega)
      have h7 : xH 7 = _ := hv 7 (by omega)
      simp only [List.take_succ_cons, List.take_zero, List.drop_succ_cons, List.drop_zero, putsH, Act.put, List.setIfInBounds_toArray, List.set_cons_succ, List.set_cons_zero, h0, h1, h2, h3, h4, h5, h6, h7]
      have OW2 := Lib.hid (OW.out.step hR)
      clear hv hR OW OZ h0 h1 h2 h3 h4 h5 h6 h7
      have OW := OW2
      clear OW2
      obtain ⟨g28, OZ⟩ := own_size OW HB0
      gi_wp2_with (first | (refine onlyO (.store 5 (.tmp 80) (.tmp 79)) rfl ?_; refine own_store 7 5 (.tmp 80) (.tmp 79) rfl rfl rfl rfl (.int .u8 ((((wD d v x0 x1 x2 b k).getD ((atX x0 x1 x2 k).toNat) 0) ^^^ (b.getD k 0)).toNat : Int)) rfl (rawV ((wD d v x0 x1 x2 b k).set ((atX x0 x1 x2 k).toNat) (((wD d v x0 x1 x2 b k).getD ((atX x0 x1 x2 k).toNat) 0) ^^^ (b.getD k 0)))) (rawV_set _ _ (((wD d v x0 x1 x2 b k).getD ((atX x0 x1 x2 k).toNat) 0) ^^^ (b.getD k 0))) (by rw [rawV_size, (show ((wD d v x0 x1 x2 b k)).length = 36 by simp only [wordL_len, synL_len, decL_len, wD_len, vD_len, List.length_set, HD.out, HV.out, HB.out])]; omega) rfl szU8 _ rfl OW OZ ?_; clear OW OZ; intro W OW OZ; simp only [Act.put, List.setIfInBounds_toArray, List.set_cons_succ, List.set_cons_zero]) | (refine onlyD 81 rfl ?_; refine own_valV 81 rfl rfl rfl (.int .i64 ((k : Int) + 1)) (run_binO (vx := .int .i64 (k : Int)) (vy := .int .i64 1) rfl rfl rfl (bin_add_in (by omega) (by omega))) ?_; simp only [Act.put, List.setIfInBounds_toArray, List.set_cons_succ, List.set_cons_zero]))
      go_roundw
      case rel => exact ⟨k + 1, by omega, (by first | rw [cnt_skip (by assumption)] | (rw [cnt_take (by assumption)]; rfl)), by go_num, (by (first | rw [wD_skip (by assumption), vD_skip (by assumption)] | rw [wD_lo (by assumption) (by omega), vD_lo (by assumption) (by omega)] | rw [wD_hi (by assumption) (by omega), vD_hi (by assumption) (by omega)]); exact OW.out)⟩
      case measure => (simp [intOf] <;> omega)
    have dhB16 := of_decide_eq_false hB16
    obtain rfl : k = 3 := by omega
    gi_upto_region 15 with fail
    obtain ⟨eo291, qeo291⟩ : ∃ e, (decide (((cntD x0 x1 x2 b (3 : Nat) : Nat) : Int) < 2)) = e := ⟨_, rfl⟩
    refine wpIn_region_heldL 2 (atD [[], [0]]) (atV [fun vH _ => vH = .int .i64 ((cntD x0 x1 x2 b (3 : Nat) : Nat) : Int), fun vH _ => vH = .bool eo291]) BelowR (by kernel_rfl) BelowR.trans (BelowR.refl _)
      (StV.atV (.const _ (.const _ .nil)))
      ⟨?o29x0, ?o29x1, trivial⟩ ?_
    case o29x0 =>
      exact held_move free_wide rfl BelowR.refl (.tmp 11) (.inl rfl) fun xH w' kH _ => (pO (by kernel_rfl) rfl)
    case o29x1 =>
      exact held_run free_wide rfl (by rfl) BelowR.refl fun xH w' kH hR => ⟨_, run_binO rfl (pT 0 (by kernel_rfl) (by kernel_rfl) (kH 0 (by decide))) rfl bin_lss, (congrArg Value.bool qeo291)⟩
    intro xH w' hv hR
    subst qeo291
    have h0 : xH 0 = _ := hv 0 (by omega)
    have h1 : xH 1 = _ := hv 1 (by omega)
    simp only [List.take_succ_cons, List.take_zero, List.drop_succ_cons, List.drop_zero, putsH, Act.put, List.setIfInBounds_toArray, List.set_cons_succ, List.set_cons_zero, h0, h1]
    have OW2 := Lib.hid (OW.out.step hR)
    clear hv hR OW OZ h0 h1
    have OW := OW2
    clear OW2
    obtain ⟨g30, OZ⟩ := own_size OW HB0
    cases hB31 : (decide (((cntD x0 x1 x2 b (3 : Nat) : Nat) : Int) < 2))
    case true =>
      have dhB31 := of_decide_eq_true hB31
      gi_wp2
      refine leaves_own [] _ (Nat.le_of_eq HB0.out) (by simpa using OW.out) ?_
      intro W' hO
      exact ⟨.bool true, by simp [results, Try.results5, go_sem], rfl, hO.done HB0⟩
    have dhB31 := of_decide_eq_false hB31
    gi_wp2_with (first | (refine onlyD 86 rfl ?_; refine own_loadRowV 86 7 23 (.tmp 10) rfl rfl rfl rfl rfl _ Try.underlying23 rfl (arJ36 (show ((wD d v x0 x1 x2 b (3 : Nat))).length = 36 by simp only [wordL_len, synL_len, decL_len, wD_len, vD_len, List.length_set, HD.out, HV.out, HB.out])) OW ?_; simp only [Act.put, List.setIfInBounds_toArray, List.set_cons_succ, List.set_cons_zero]) | (refine onlyD 87 rfl ?_; refine own_loadRowV 87 1 24 (.tmp 5) rfl rfl rfl rfl rfl _ Try.underlying24 rfl (arJ3 (show ((vD v x0 x1 x2 b (3 : Nat))).length = 3 by simp only [wordL_len, synL_len, decL_len, wD_len, vD_len, List.length_set, HD.out, HV.out, HB.out])) OW ?_; simp only [Act.put, List.setIfInBounds_toArray, List.set_cons_succ, List.set_cons_zero]))
    refine ⟨trivial, ?_⟩
    refine (callsIn_wide.2 (decode_any cb fb (wD d v x0 x1 x2 b (3 : Nat)) (vD v x0 x1 x2 b (3 : Nat)) (by simp only [wordL_len, synL_len, decL_len, wD_len, vD_len, List.length_set, HD.out, HV.out, HB.out]) (by simp only [wordL_len, synL_len, decL_len, wD_len, vD_len, List.length_set, HD.out, HV.out, HB.out]) _ (HCODE.out _ _ OW.out rfl rfl rfl))).mono ?_
    rintro e Wg32 ⟨rfl, hbw⟩
    obtain ⟨g32, OW2, OZ2⟩ := own_call OW OZ hbw
    clear hbw OW OZ
    have OW := OW2
    have OZ := OZ2
    clear OW2 OZ2
    gi_upto_region 18 with (first | (refine onlyD 89 rfl ?_; refine own_valV 89 rfl rfl rfl (.agg (rawV (decL (wD d v x0 x1 x2 b (3 : Nat)) (vD v x0 x1 x2 b (3 : Nat))))) (run_extractO rfl rfl rfl) ?_; simp only [Act.put, List.setIfInBounds_toArray, List.set_cons_succ, List.set_cons_zero]) | (refine onlyD 90 rfl ?_; refine own_valV 90 rfl rfl rfl (.agg #[.int .i64 ((locF (co (synL (wD d v x0 x1 x2 b (3 : Nat)) (vD v x0 x1 x2 b (3 : Nat))))).kind : Int), .int .i64 (locF (co (synL (wD d v x0 x1 x2 b (3 : Nat)) (vD v x0 x1 x2 b (3 : Nat))))).place, .int .u8 ((locF (co (synL (wD d v x0 x1 x2 b (3 : Nat)) (vD v x0 x1 x2 b (3 : Nat))))).val.toNat : Int)]) (run_extractO rfl rfl rfl) ?_; simp only [Act.put, List.setIfInBounds_toArray, List.set_cons_succ, List.set_cons_zero]) | (refine onlyD 14 rfl ?_; refine own_allocV 14 32 rfl rfl rfl (rawV (List.replicate 32 0)) al32 OW OZ ?_; clear OW OZ; intro W g33 OW OZ; simp only [Act.put, List.setIfInBounds_toArray, List.set_cons_succ, List.set_cons_zero]) | (refine onlyD 15 rfl ?_; refine own_allocV 15 30 rfl rfl rfl #[.int .i64 0, .int .i64 0, .int .u8 0] (fun _ => by kernel_rfl) OW OZ ?_; clear OW OZ; intro W g34 OW OZ; simp only [Act.put, List.setIfInBounds_toArray, List.set_cons_succ, List.set_cons_zero]) | (refine onlyO (.store 32 (.tmp 14) (.tmp 89)) rfl ?_; refine own_storeRow 8 32 (.tmp 14) (.tmp 89) rfl rfl rfl rfl (rawV (decL (wD d v x0 x1 x2 b (3 : Nat)) (vD v x0 x1 x2 b (3 : Nat)))) rfl (by rw [rawV_size, rawV_size, (show ((decL (wD d v x0 x1 x2 b (3 : Nat)) (vD v x0 x1 x2 b (3 : Nat)))).length = 32 by simp only [wordL_len, synL_len, decL_len, wD_len, vD_len, List.length_set, HD.out, HV.out, HB.out]), (show ((List.replicate 32 0) : List UInt8).length = 32 from List.length_replicate)]) (rawV_one _) (arJ32 (show ((decL (wD d v x0 x1 x2 b (3 : Nat)) (vD v x0 x1 x2 b (3 : Nat)))).length = 32 by simp only [wordL_len, synL_len, decL_len, wD_len, vD_len, List.length_set, HD.out, HV.out, HB.out])) _ rfl OW OZ ?_; clear OW OZ; intro W OW OZ; simp only [Act.put, List.setIfInBounds_toArray, List.set_cons_succ, List.set_cons_zero]) | (refine onlyO (.store 30 (.tmp 15) (.tmp 90)) rfl ?_; refine own_storeSub 9 0 30 (.tmp 15) (.tmp 90) rfl rfl rfl rfl [.int .i64 ((locF (co (synL (wD d v x0 x1 x2 b (3 : Nat)) (vD v x0 x1 x2 b (3 : Nat))))).kind : Int), .int .i64 (locF (co (synL (wD d v x0 x1 x2 b (3 : Nat)) (vD v x0 x1 x2 b (3 : Nat))))).place, .int .u8 ((locF (co (synL (wD d v x0 x1 x2 b (3 : Nat)) (vD v x0 x1 x2 b (3 : Nat))))).val.toNat : Int)] rfl (Nat.le_of_ble_eq_true rfl) rfl (by kernel_rfl) #[.int .i64 ((locF (co (synL (wD d v x0 x1 x2 b (3 : Nat)) (vD v x0 x1 x2 b (3 : Nat))))).kind : Int), .int .i64 (locF (co (synL (wD d v x0 x1 x2 b (3 : Nat)) (vD v x0 x1 x2 b (3 : Nat))))).place, .int .u8 ((locF (co (synL (wD d v x0 x1 x2 b (3 : Nat)) (vD v x0 x1 x2 b (3 : Nat))))).val.toNat : Int)] rfl _ rfl OW OZ ?_; clear OW OZ; intro W OW OZ; simp only [Act.put, List.setIfInBounds_toArray, List.set_cons_succ, List.set_cons_zero]))
    refine wpIn_region_heldL 4 (atD [[], [], [0, 1], [2]]) (atV [fun vH _ => vH = .agg #[.int .i64 ((locF (co (synL (wD d v x0 x1 x2 b (3 : Nat)) (vD v x0 x1 x2 b (3 : Nat))))).kind : Int), .int .i64 (locF (co (synL (wD d v x0 x1 x2 b (3 : Nat)) (vD v x0 x1 x2 b (3 : Nat))))).place, .int .u8 ((locF (co (synL (wD d v x0 x1 x2 b (3 : Nat)) (vD v x0 x1 x2 b (3 : Nat))))).val.toNat : Int)], fun vH _ => vH = .agg #[.int .i64 3, .int .i64 (-1), .int .u8 0], fun vH _ => vH = .bool true, fun vH _ => vH = .bool true]) BelowR (by kernel_rfl) BelowR.trans (BelowR.refl _)
      (StV.atV (.const _ (.const _ (.const _ (.const _ .nil)))))
      ⟨?o35x0, ?o35x1, ?o35x2, ?o35x3, trivial⟩ ?_
    case o35x0 =>
      exact held_load free_wide rfl BelowR.refl 30 (.tmp 15) rfl fun xH w' kH hR => ⟨_, _, (pO (by kernel_rfl) rfl), ldS OW hR 9 rfl 3 rfl Try.underlying30 rfl rfl (by kernel_rfl), rfl⟩
    case o35x1 =>
      exact held_run free_wide rfl (by rfl) BelowR.refl fun xH w' kH hR => ⟨_, run_buildO rfl (mapB2 rfl rfl) _ (by kernel_rfl), rfl⟩
    case o35x2 =>
      exact held_run free_wide rfl (by rfl) BelowR.refl fun xH w' kH hR => ⟨_, run_binO rfl (pT 0 (by kernel_rfl) (by kernel_rfl) (kH 0 (by decide))) (pT 1 (by kernel_rfl) (by kernel_rfl) (kH 1 (by decide))) (vdE (loc_D d v b x0 x1 x2 HD.out HV.out (by omega)) _ _ _), rfl⟩
    case o35x3 =>
      exact held_move free_wide rfl BelowR.refl (.tmp 93) (.inr rfl) fun xH w' kH _ => (pT 2 (by kernel_rfl) (by kernel_rfl) (kH 2 (by decide)))
    intro xH w' hv hR
    have h0 : xH 0 = _ := hv 0 (by omega)
    have h1 : xH 1 = _ := hv 1 (by omega)
    have h2 : xH 2 = _ := hv 2 (by omega)
    have h3 : xH 3 = _ := hv 3 (by omega)
    simp only [List.take_succ_cons, List.take_zero, List.drop_succ_cons, List.drop_zero, putsH, Act.put, List.setIfInBounds_toArray, List.set_cons_succ, List.set_cons_zero, h0, h1, h2, h3]
    have OW2 := Lib.hid (OW.out.step hR)
    clear hv hR OW OZ h0 h1 h2 h3
    have OW := OW2
    clear OW2
    obtain ⟨g36, OZ⟩ := own_size OW HB0
    gi_wp2
    refine leaves_own [] _ (Nat.le_of_eq HB0.out) (by simpa using OW.out) ?_
    intro W' hO
    exact ⟨.bool true, by simp [results, Try.results5, go_sem], rfl, hO.done HB0⟩
end Go.Proofs.Ytdgflbbffimpkaa
