/- The statement RsCorrects: its walk. -/
import Derived.Test.YtdgflbbffimpkaaRsT
import Derived.Test.YtdgflbbffimpkaaArrO
namespace Go.Proofs.Ytdgflbbffimpkaa
open Go.RowKit Go.Shelf
attribute [local go_sem] Oper.semAt_some
set_option linter.unusedVariables false
set_option linter.unusedSimpArgs false

theorem getD_set8 (l : List UInt8) (s t : Nat) (y : UInt8) (hs : s < l.length) : (l.set s y).getD t 0 = if s = t then y else l.getD t 0 := by
  rw [List.getD_eq_getElem?_getD, List.getElem?_set]
  by_cases h : s = t
  · subst h; rw [if_pos rfl, if_pos hs, if_pos rfl]; rfl
  · rw [if_neg h, if_neg h, List.getD_eq_getElem?_getD]
theorem word_drop (d v : List UInt8) : (wordL d v).drop 4 = d := by
  unfold wordL
  exact List.drop_left' (chkL_len d v)
/-- The verdict of one replaced symbol. -/
def wantV (k : Nat) (a : UInt8) : Vd := if a = 0 then ⟨0, -1, 0⟩ else if 35 < k then ⟨2, k, a⟩ else ⟨1, k, a⟩
theorem loc_want (d v w u : List UInt8) (k : Nat) (a : UInt8) (hd : d.length = 32) (hv : v.length = 3) (hl : (w ++ u).length = 39) (hk : k < 39) (h : ∀ i, i < 39 → co (w ++ u) i = co (wordL d v ++ v) i ^^^ one k a i) : locF (co (synL w u)) = wantV k a := by
  rw [loc_add d v w u (one k a) hd hv hl h, loc_one hk fun j _ => Sy_one hk a j]
  rfl
theorem cor_hi (d v : List UInt8) (k : Nat) (a : UInt8) (hd : d.length = 32) (hv : v.length = 3) (h36 : 35 < k) (hk : k < 39) :
    locF (co (synL (wordL d v) (v.set (k - 36) (v.getD (k - 36) 0 ^^^ a)))) = wantV k a := by
  refine loc_want d v _ _ k a hd hv (by rw [List.length_append, List.length_set, wordL_len d v hd, hv]) hk fun i hi => ?_
  by_cases h : i < 36
  · rw [co_left (by rw [wordL_len d v hd]; exact h), co_left (by rw [wordL_len d v hd]; exact h), show one k a i = 0 from if_neg (by omega), UInt8.xor_zero]
  · obtain ⟨t, rfl⟩ : ∃ t, i = 36 + t := ⟨i - 36, by omega⟩
    rw [co_right (wordL_len d v hd), co_right (wordL_len d v hd), getD_set8 _ _ _ _ (by omega)]
    by_cases e : k - 36 = t
    · rw [if_pos e, show one k a (36 + t) = a from if_pos (by omega), e]
    · rw [if_neg e, show one k a (36 + t) = 0 from if_neg (by omega), UInt8.xor_zero]
theorem cor_lo (d v : List UInt8) (k : Nat) (a : UInt8) (hd : d.length = 32) (hv : v.length = 3) (h36 : k ≤ 35) :
    locF (co (synL ((wordL d v).set k ((wordL d v).getD k 0 ^^^ a)) v)) = wantV k a := by
  refine loc_want d v _ _ k a hd hv (by rw [List.length_append, List.length_set, wordL_len d v hd, hv]) (by omega) fun i hi => ?_
  by_cases h : i < 36
  · rw [co_left (by rw [List.length_set, wordL_len d v hd]; exact h), co_left (by rw [wordL_len d v hd]; exact h), getD_set8 _ _ _ _ (by rw [wordL_len d v hd]; omega)]
    by_cases e : k = i
    · rw [if_pos e, show one k a i = a from if_pos e.symm, e]
    · rw [if_neg e, show one k a i = 0 from if_neg (fun h => e h.symm), UInt8.xor_zero]
  · obtain ⟨t, rfl⟩ : ∃ t, i = 36 + t := ⟨i - 36, by omega⟩
    rw [co_right (by rw [List.length_set, wordL_len d v hd]), co_right (wordL_len d v hd), show one k a (36 + t) = 0 from if_neg (by omega), UInt8.xor_zero]
theorem dec_hi (d v : List UInt8) (k : Nat) (a : UInt8) (hd : d.length = 32) (hv : v.length = 3) (h36 : 35 < k) (hk : k < 39) : decL (wordL d v) (v.set (k - 36) (v.getD (k - 36) 0 ^^^ a)) = d := by
  unfold decL
  rw [cor_hi d v k a hd hv h36 hk]
  unfold wantV
  by_cases ha : a = 0
  · rw [if_pos ha]; exact word_drop d v
  · rw [if_neg ha, if_pos h36]; exact word_drop d v
theorem set_back (l : List UInt8) (k : Nat) (a : UInt8) (hk : k < l.length) : (l.set k (l.getD k 0 ^^^ a)).set k ((l.set k (l.getD k 0 ^^^ a)).getD k 0 ^^^ a) = l := by
  rw [getD_set8 _ _ _ _ hk, if_pos rfl, UInt8.xor_assoc, UInt8.xor_self, UInt8.xor_zero, List.set_set]
  refine list_ext (by rw [List.length_set]) fun i _ => ?_
  show (l.set k _).getD i 0 = l.getD i 0
  rw [getD_set8 _ _ _ _ hk]
  by_cases e : k = i
  · rw [if_pos e, e]
  · rw [if_neg e]
theorem dec_lo (d v : List UInt8) (k : Nat) (a : UInt8) (hd : d.length = 32) (hv : v.length = 3) (h36 : k ≤ 35) : decL ((wordL d v).set k ((wordL d v).getD k 0 ^^^ a)) v = d := by
  have hl : k < (wordL d v).length := by rw [wordL_len d v hd]; omega
  unfold decL
  rw [cor_lo d v k a hd hv h36]
  unfold wantV
  by_cases ha : a = 0
  · subst ha
    rw [if_pos rfl]
    have e := set_back (wordL d v) k 0 hl
    rw [UInt8.xor_zero] at e ⊢
    have e2 : (wordL d v).set k ((wordL d v).getD k 0) = wordL d v := by
      refine list_ext (by rw [List.length_set]) fun i _ => ?_
      show ((wordL d v).set k _).getD i 0 = (wordL d v).getD i 0
      rw [getD_set8 _ _ _ _ hl]
      by_cases e : k = i
      · rw [if_pos e, e]
      · rw [if_neg e]
    rw [e2]
    exact word_drop d v
  · rw [if_neg ha, if_neg (by omega)]
    show (((wordL d v).set k ((wordL d v).getD k 0 ^^^ a)).set (k : Int).toNat ((((wordL d v).set k ((wordL d v).getD k 0 ^^^ a)).getD (k : Int).toNat 0) ^^^ a)).drop 4 = d
    rw [Int.toNat_natCast, set_back _ _ _ hl]
    exact word_drop d v
theorem vdE {x y : Vd} (h : x = y) (p q : Operand) (w : World) : (do eqGuard .eql 30 p q (.agg #[.int .i64 (x.kind : Int), .int .i64 x.place, .int .u8 (x.val.toNat : Int)]) (.agg #[.int .i64 (y.kind : Int), .int .i64 y.place, .int .u8 (y.val.toNat : Int)]); Go.binOp .eql 30 (.agg #[.int .i64 (x.kind : Int), .int .i64 x.place, .int .u8 (x.val.toNat : Int)]) (.agg #[.int .i64 (y.kind : Int), .int .i64 y.place, .int .u8 (y.val.toNat : Int)]) : Sem Value).run Try.prog w = .ok (.bool true) w := by
  subst h
  exact eqV_self _ _ _ _ _ _
theorem a_zero {a : UInt8} {b : Bool} (h : ((a.toNat : Int) == 0) = b) : (a = 0) = (b = true) := by
  rw [u8I_zero] at h
  rw [← h, beq_iff_eq]
theorem want0 {k : Nat} {a : UInt8} (h : ((a.toNat : Int) == 0) = true) : wantV k a = ⟨0, -1, 0⟩ := by
  unfold wantV; rw [if_pos (by rw [a_zero h])]
theorem want2 {k : Nat} {a : UInt8} (h : ((a.toNat : Int) == 0) = false) (hk : 35 < k) : wantV k a = ⟨2, k, a⟩ := by
  unfold wantV; rw [if_neg (by rw [a_zero h]; decide), if_pos hk]
theorem want1 {k : Nat} {a : UInt8} (h : ((a.toNat : Int) == 0) = false) (hk : k ≤ 35) : wantV k a = ⟨1, k, a⟩ := by
  unfold wantV; rw [if_neg (by rw [a_zero h]; decide), if_neg (by omega)]

attribute [local irreducible] decL wordL synL locF chkL gm wantV

set_option maxRecDepth 100000 in
set_option maxHeartbeats 1000000 in
theorem RsCorrects_any (d v : List UInt8) (p : Int) (a : UInt8) (hd : d.length = 32) (hv : v.length = 3) (w : World) : Calls Try.prog 4 #[.agg (rawV d), .agg (rawV v), .int .i64 p, .int .u8 (a.toNat : Int)] w fun e w' => e = .returned (.bool true) ∧ Below w.heap.size w w' := by
  obtain ⟨b0, hb0⟩ : ∃ b0, w.heap.size = b0 := ⟨_, rfl⟩
  have HB0 := Lib.hid hb0
  have OW := Lib.hid (Own.start b0 w)
  have OZ := Lib.hid (And.intro hb0 (Nat.le_refl b0))
  clear hb0
  have HD := Lib.hid hd
  have HV := Lib.hid hv
  have HA := Lib.hid (fun k h1 h2 => And.intro (dec_hi d v k a hd hv h1 h2) (cor_hi d v k a hd hv h1 h2))
  have HL := Lib.hid (fun k h1 => And.intro (dec_lo d v k a hd hv h1) (cor_lo d v k a hd hv h1))
  clear hd hv
  refine (callsIn_wide (n := 6)).1 ?_
  refine callsIn_of_wp_marks Try.func4 rfl trivial ?_ rfl
  simp only [Try.ntmps4, List.size_toArray, List.length_cons, List.length_nil, Nat.reduceAdd, Nat.reduceSub, Array.replicate_succ, Array.replicate_zero, List.push_toArray, List.append_toArray, List.nil_append, List.cons_append]
  gi_upto_region 1 with (first | (refine onlyD 4 rfl ?_; refine own_boxV 4 32 (.tmp 0) rfl rfl rfl (.agg (rawV d)) rfl (rawV d) rfl OW OZ ?_; clear OW OZ; intro W g1 OW OZ; simp only [Act.put, List.setIfInBounds_toArray, List.set_cons_succ, List.set_cons_zero]) | (refine onlyD 5 rfl ?_; refine own_boxV 5 24 (.tmp 1) rfl rfl rfl (.agg (rawV v)) rfl (rawV v) rfl OW OZ ?_; clear OW OZ; intro W g2 OW OZ; simp only [Act.put, List.setIfInBounds_toArray, List.set_cons_succ, List.set_cons_zero]))
  gi_wp2_with fail
  refine ⟨trivial, ?_⟩
  refine (callsIn_wide.2 (coded_any _)).mono ?_
  rintro e Wg ⟨cb, fb, gb, rest, rfl, hO⟩
  have OW1 := Lib.hid (Own.join OW.out (by rw [OZ.out.1]; exact OZ.out.2) hO)
  clear OW OZ hO
  have OW := OW1
  clear OW1
  obtain ⟨grg3, OZ⟩ := own_size OW HB0
  have HCODE := Lib.hid (fun (L : Objs) (V : World) (h : Own b0 w L V) (h1 : L[2]? = some (fb, Obj.cells fieldCells 68 (0, 0))) (h2 : L[3]? = some (gb, Obj.cells (rowV genL rest) 5 (0, 0))) (h3 : L[4]? = some (cb, Obj.cells #[.pointer (some ⟨fb, 0, none⟩), .slice (some ⟨gb, 0, none⟩) 5 (5 + rest.length)] 59 (0, 0))) => CodeAt.mk3 h h1 h2 h3)
  gi_upto_region 2 with fail
  refine wpIn_region_heldL 2 (atD [[], [0]]) (atV [fun vH _ => vH = .pointer (some ⟨cb, 0, none⟩), fun vH _ => vH = .bool false]) BelowR (by kernel_rfl) BelowR.trans (BelowR.refl _)
    (StV.atV (.const _ (.const _ .nil)))
    ⟨?o4x0, ?o4x1, trivial⟩ ?_
  case o4x0 =>
    exact held_move free_wide rfl BelowR.refl (.tmp 9) (.inl rfl) fun xH w' kH _ => (pO (by kernel_rfl) rfl)
  case o4x1 =>
    exact held_run free_wide rfl (by rfl) BelowR.refl fun xH w' kH hR => ⟨_, run_binO rfl (pT 0 (by kernel_rfl) (by kernel_rfl) (kH 0 (by decide))) rfl (by kernel_rfl), rfl⟩
  intro xH w' hv hR
  have h0 : xH 0 = _ := hv 0 (by omega)
  have h1 : xH 1 = _ := hv 1 (by omega)
  simp only [List.take_succ_cons, List.take_zero, List.drop_succ_cons, List.drop_zero, putsH, Act.put, List.setIfInBounds_toArray, List.set_cons_succ, List.set_cons_zero, h0, h1]
  have OW2 := Lib.hid (OW.out.step hR)
  clear hv hR OW OZ h0 h1
  have OW := OW2
  clear OW2
  obtain ⟨g5, OZ⟩ := own_size OW HB0
  gi_upto_region 4 with fail
  obtain ⟨eo61, qeo61⟩ : ∃ e, (decide (p < 0)) = e := ⟨_, rfl⟩
  obtain ⟨eo64, qeo64⟩ : ∃ e, (decide (38 < p)) = e := ⟨_, rfl⟩
  obtain ⟨eo65, qeo65⟩ : ∃ e, (eo61 || eo64) = e := ⟨_, rfl⟩
  refine wpIn_region_heldL 6 (atD [[], [0], [1], [2], [2, 3], [2, 4]]) (atV [fun vH _ => vH = .int .i64 p, fun vH _ => vH = .bool eo61, fun vH _ => vH = .bool eo61, cdV (True ∧ eo61 = false) (fun vH _ => vH = .int .i64 p), cdV (True ∧ eo61 = false) (fun vH _ => vH = .bool eo64), fun vH _ => vH = .bool eo65]) BelowR (by kernel_rfl) BelowR.trans (BelowR.refl _)
    (StV.atV (.const _ (.const _ (.const _ (.cons (fun v x y h _ => h) (.cons (fun v x y h _ => h) (.const _ .nil)))))))
    ⟨?o6x0, ?o6x1, ?o6x2, ?o6x3, ?o6x4, ?o6x5, trivial⟩ ?_
  case o6x0 =>
    exact held_move free_wide rfl BelowR.refl (.tmp 2) (.inl rfl) fun xH w' kH _ => (pO (by kernel_rfl) rfl)
  case o6x1 =>
    exact held_run free_wide rfl (by rfl) BelowR.refl fun xH w' kH hR => ⟨_, run_binO rfl (pT 0 (by kernel_rfl) (by kernel_rfl) (kH 0 (by decide))) rfl bin_lss, (congrArg Value.bool qeo61)⟩
  case o6x2 =>
    exact held_move free_wide rfl BelowR.refl (.tmp 18) (.inl rfl) fun xH w' kH _ => (pT 1 (by kernel_rfl) (by kernel_rfl) (kH 1 (by decide)))
  case o6x3 =>
    refine held_guard free_wide 2 19 false True eo61 BelowR.refl rfl (by kernel_rfl) (by kernel_rfl) (by kernel_rfl) (fun xH w' kH => .inl ⟨trivial, kH 2 (by decide)⟩) (fun hC hG => ?_) (fun hN w' => .inr ⟨hN, rfl⟩)
    exact held_moveG free_wide hG BelowR.refl (.tmp 2) (.inl rfl) fun xH w' kH _ => .inl ⟨hC, (pO (by kernel_rfl) rfl)⟩
  case o6x4 =>
    refine held_guard free_wide 2 19 false True eo61 BelowR.refl rfl (by kernel_rfl) (by kernel_rfl) (by kernel_rfl) (fun xH w' kH => .inl ⟨trivial, kH 2 (by decide)⟩) (fun hC hG => ?_) (fun hN w' => .inr ⟨hN, rfl⟩)
    exact held_runG free_wide hG (by rfl) BelowR.refl fun xH w' kH hR => ⟨_, run_binO rfl (pT 3 (by kernel_rfl) (by kernel_rfl) (cdAt (kH 3 (by decide)) rfl hC)) rfl bin_gtr, (.inl ⟨hC, congrArg Value.bool qeo64⟩)⟩
  case o6x5 =>
    exact held_run free_wide rfl (by rfl) BelowR.refl fun xH w' kH hR => ⟨_, run_pickOr rfl (pT 2 (by kernel_rfl) (by kernel_rfl) (kH 2 (by decide))) rfl (fun h => pT 4 (by kernel_rfl) (by kernel_rfl) (cdAt (kH 4 (by decide)) rfl (And.intro trivial h))), (congrArg Value.bool qeo65)⟩
  intro xH w' hv hR
  subst qeo65 qeo64 qeo61
  have h0 : xH 0 = _ := hv 0 (by omega)
  have h1 : xH 1 = _ := hv 1 (by omega)
  have h2 : xH 2 = _ := hv 2 (by omega)
  have h5 : xH 5 = _ := hv 5 (by omega)
  simp only [List.take_succ_cons, List.take_zero, List.drop_succ_cons, List.drop_zero, putsH, Act.put, List.setIfInBounds_toArray, List.set_cons_succ, List.set_cons_zero, h0, h1, h2, h5]
  have OW2 := Lib.hid (OW.out.step hR)
  clear hv hR OW OZ h0 h1 h2 h5
  have OW := OW2
  clear OW2
  obtain ⟨g7, OZ⟩ := own_size OW HB0
  cases hB8 : ((decide (p < 0)) || (decide (38 < p)))
  case true =>
    gi_wp2
    refine leaves_own [] _ (Nat.le_of_eq HB0.out) (by simpa using OW.out) ?_
    intro W' hO
    exact ⟨.bool true, by simp [results, Try.results4, go_sem], rfl, hO.done HB0⟩
  obtain ⟨k, hk, hp⟩ : ∃ k : Nat, k < 39 ∧ p = (k : Int) := (by simp only [Bool.or_eq_false_iff, decide_eq_false_iff_not] at hB8; exact ⟨p.toNat, by omega, by omega⟩)
  subst hp
  gi_wp2_with (first | (refine onlyD 24 rfl ?_; refine own_loadRowV 24 0 32 (.tmp 4) rfl rfl rfl rfl rfl _ Try.underlying32 rfl (arJ32 (show (d).length = 32 from HD.out)) OW ?_; simp only [Act.put, List.setIfInBounds_toArray, List.set_cons_succ, List.set_cons_zero]) | (refine onlyD 25 rfl ?_; refine own_loadRowV 25 1 24 (.tmp 5) rfl rfl rfl rfl rfl _ Try.underlying24 rfl (arJ3 (show (v).length = 3 from HV.out)) OW ?_; simp only [Act.put, List.setIfInBounds_toArray, List.set_cons_succ, List.set_cons_zero]))
  refine ⟨trivial, ?_⟩
  refine (callsIn_wide.2 (word_any cb fb d v (HD.out) (HV.out) _ (HCODE.out _ _ OW.out rfl rfl rfl))).mono ?_
  rintro e Wg9 ⟨rfl, hbw⟩
  obtain ⟨g9, OW2, OZ2⟩ := own_call OW OZ hbw
  clear hbw OW OZ
  have OW := OW2
  have OZ := OZ2
  clear OW2 OZ2
  gi_upto_region 8 with (first | (refine onlyD 10 rfl ?_; refine own_allocV 10 23 rfl rfl rfl (rawV (List.replicate 36 0)) al36 OW OZ ?_; clear OW OZ; intro W g10 OW OZ; simp only [Act.put, List.setIfInBounds_toArray, List.set_cons_succ, List.set_cons_zero]) | (refine onlyO (.store 23 (.tmp 10) (.tmp 26)) rfl ?_; refine own_storeRow 5 23 (.tmp 10) (.tmp 26) rfl rfl rfl rfl (rawV (wordL d v)) rfl (by rw [rawV_size, rawV_size, (show ((wordL d v)).length = 36 by simp only [wordL_len, synL_len, decL_len, List.length_set, HD.out, HV.out]), (show ((List.replicate 36 0) : List UInt8).length = 36 from List.length_replicate)]) (rawV_one _) (arJ36 (show ((wordL d v)).length = 36 by simp only [wordL_len, synL_len, decL_len, List.length_set, HD.out, HV.out])) _ rfl OW OZ ?_; clear OW OZ; intro W OW OZ; simp only [Act.put, List.setIfInBounds_toArray, List.set_cons_succ, List.set_cons_zero]) | (refine onlyD 29 rfl ?_; refine own_valV 29 rfl rfl rfl (.agg #[.int .i64 1, .int .i64 (k : Int), .int .u8 (a.toNat : Int)]) (run_buildO rfl (vs := #[(0, .int .i64 1), (1, .int .i64 (k : Int)), (2, .int .u8 (a.toNat : Int))]) rfl _ (by kernel_rfl)) ?_; simp only [Act.put, List.setIfInBounds_toArray, List.set_cons_succ, List.set_cons_zero]) | (refine onlyD 11 rfl ?_; refine own_allocV 11 30 rfl rfl rfl #[.int .i64 0, .int .i64 0, .int .u8 0] (fun _ => by kernel_rfl) OW OZ ?_; clear OW OZ; intro W g11 OW OZ; simp only [Act.put, List.setIfInBounds_toArray, List.set_cons_succ, List.set_cons_zero]) | (refine onlyO (.store 30 (.tmp 11) (.tmp 29)) rfl ?_; refine own_storeSub 6 0 30 (.tmp 11) (.tmp 29) rfl rfl rfl rfl [.int .i64 1, .int .i64 (k : Int), .int .u8 (a.toNat : Int)] rfl (Nat.le_of_ble_eq_true rfl) rfl (by kernel_rfl) #[.int .i64 1, .int .i64 (k : Int), .int .u8 (a.toNat : Int)] rfl _ rfl OW OZ ?_; clear OW OZ; intro W OW OZ; simp only [Act.put, List.setIfInBounds_toArray, List.set_cons_succ, List.set_cons_zero]))
  obtain ⟨eo121, qeo121⟩ : ∃ e, (decide (35 < (k : Int))) = e := ⟨_, rfl⟩
  refine wpIn_region_heldL 2 (atD [[], [0]]) (atV [fun vH _ => vH = .int .i64 (k : Int), fun vH _ => vH = .bool eo121]) BelowR (by kernel_rfl) BelowR.trans (BelowR.refl _)
    (StV.atV (.const _ (.const _ .nil)))
    ⟨?o12x0, ?o12x1, trivial⟩ ?_
  case o12x0 =>
    exact held_move free_wide rfl BelowR.refl (.tmp 2) (.inl rfl) fun xH w' kH _ => (pO (by kernel_rfl) rfl)
  case o12x1 =>
    exact held_run free_wide rfl (by rfl) BelowR.refl fun xH w' kH hR => ⟨_, run_binO rfl (pT 0 (by kernel_rfl) (by kernel_rfl) (kH 0 (by decide))) rfl bin_gtr, (congrArg Value.bool qeo121)⟩
  intro xH w' hv hR
  subst qeo121
  have h0 : xH 0 = _ := hv 0 (by omega)
  have h1 : xH 1 = _ := hv 1 (by omega)
  simp only [List.take_succ_cons, List.take_zero, List.drop_succ_cons, List.drop_zero, putsH, Act.put, List.setIfInBounds_toArray, List.set_cons_succ, List.set_cons_zero, h0, h1]
  have OW2 := Lib.hid (OW.out.step hR)
  clear hv hR OW OZ h0 h1
  have OW := OW2
  clear OW2
  obtain ⟨g13, OZ⟩ := own_size OW HB0
  cases hB14 : (decide (35 < (k : Int)))
  case true =>
    have dhB14 := of_decide_eq_true hB14
    gi_upto_region 12 with (first | (refine onlyO (.store 3 (.tmp 32) (.const (.int .i64 2))) rfl ?_; refine own_store 6 3 (.tmp 32) (.const (.int .i64 2)) rfl rfl rfl rfl (.int .i64 2) rfl #[.int .i64 2, .int .i64 (k : Int), .int .u8 (a.toNat : Int)] rfl (Nat.le_of_ble_eq_true rfl) rfl szInt _ rfl OW OZ ?_; clear OW OZ; intro W OW OZ; simp only [Act.put, List.setIfInBounds_toArray, List.set_cons_succ, List.set_cons_zero]) | (refine onlyD 34 rfl ?_; refine own_valV 34 rfl rfl rfl (.int .i64 ((k - 36 : Nat) : Int)) (run_binO (vx := .int .i64 (k : Int)) (vy := .int .i64 36) rfl rfl rfl (by rw [show ((k - 36 : Nat) : Int) = (k : Int) - 36 by omega]; exact bin_sub_in (by omega) (by omega))) ?_; simp only [Act.put, List.setIfInBounds_toArray, List.set_cons_succ, List.set_cons_zero]) | (refine onlyD 35 rfl ?_; refine own_valV 35 rfl rfl rfl (.pointer (some ⟨g1, (k - 36), none⟩)) (run_idxO (vx := .pointer (some ⟨g1, 0, none⟩)) (vi := .int .i64 ((k - 36 : Nat) : Int)) rfl rfl rfl (arX3 _ (k - 36) (by omega) _)) ?_; simp only [Act.put, List.setIfInBounds_toArray, List.set_cons_succ, List.set_cons_zero]) | (refine onlyD 36 rfl ?_; refine own_loadV 36 1 5 (.tmp 35) rfl rfl rfl rfl rfl (.int .u8 ((v.getD (k - 36) 0).toNat : Int)) (rawV_get _ (by rw [(show (v).length = 3 from HV.out)]; omega)) naU8 OW ?_; simp only [Act.put, List.setIfInBounds_toArray, List.set_cons_succ, List.set_cons_zero]) | (refine onlyD 38 rfl ?_; refine own_valV 38 rfl rfl rfl (.int .u8 (((v.getD (k - 36) 0) ^^^ a).toNat : Int)) (run_binO (vx := .int .u8 ((v.getD (k - 36) 0).toNat : Int)) (vy := .int .u8 (a.toNat : Int)) rfl rfl rfl (bin_xor8)) ?_; simp only [Act.put, List.setIfInBounds_toArray, List.set_cons_succ, List.set_cons_zero]) | (refine onlyD 39 rfl ?_; refine own_valV 39 rfl rfl rfl (.pointer (some ⟨g1, (k - 36), none⟩)) (run_idxO (vx := .pointer (some ⟨g1, 0, none⟩)) (vi := .int .i64 ((k - 36 : Nat) : Int)) rfl rfl rfl (arX3 _ (k - 36) (by omega) _)) ?_; simp only [Act.put, List.setIfInBounds_toArray, List.set_cons_succ, List.set_cons_zero]) | (refine onlyO (.store 5 (.tmp 39) (.tmp 38)) rfl ?_; refine own_store 1 5 (.tmp 39) (.tmp 38) rfl rfl rfl rfl (.int .u8 (((v.getD (k - 36) 0) ^^^ a).toNat : Int)) rfl (rawV (v.set (k - 36) ((v.getD (k - 36) 0) ^^^ a))) (rawV_set _ _ ((v.getD (k - 36) 0) ^^^ a)) (by rw [rawV_size, (show (v).length = 3 from HV.out)]; omega) rfl szU8 _ rfl OW OZ ?_; clear OW OZ; intro W OW OZ; simp only [Act.put, List.setIfInBounds_toArray, List.set_cons_succ, List.set_cons_zero]))
    obtain ⟨eo151, qeo151⟩ : ∃ e, ((a.toNat : Int) == 0) = e := ⟨_, rfl⟩
    refine wpIn_region_heldL 2 (atD [[], [0]]) (atV [fun vH _ => vH = .int .u8 (a.toNat : Int), fun vH _ => vH = .bool eo151]) BelowR (by kernel_rfl) BelowR.trans (BelowR.refl _)
      (StV.atV (.const _ (.const _ .nil)))
      ⟨?o15x0, ?o15x1, trivial⟩ ?_
    case o15x0 =>
      exact held_move free_wide rfl BelowR.refl (.tmp 3) (.inl rfl) fun xH w' kH _ => (pO (by kernel_rfl) rfl)
    case o15x1 =>
      exact held_run free_wide rfl (by rfl) BelowR.refl fun xH w' kH hR => ⟨_, run_binO rfl (pT 0 (by kernel_rfl) (by kernel_rfl) (kH 0 (by decide))) rfl bin_eql, (congrArg Value.bool qeo151)⟩
    intro xH w' hv hR
    subst qeo151
    have h0 : xH 0 = _ := hv 0 (by omega)
    have h1 : xH 1 = _ := hv 1 (by omega)
    simp only [List.take_succ_cons, List.take_zero, List.drop_succ_cons, List.drop_zero, putsH, Act.put, List.setIfInBounds_toArray, List.set_cons_succ, List.set_cons_zero, h0, h1]
    have OW2 := Lib.hid (OW.out.step hR)
    clear hv hR OW OZ h0 h1
    have OW := OW2
    clear OW2
    obtain ⟨g16, OZ⟩ := own_size OW HB0
    cases hB17 : ((a.toNat : Int) == 0)
    case true =>
      gi_wp2_with (first | (refine onlyD 48 rfl ?_; refine own_valV 48 rfl rfl rfl (.agg #[.int .i64 0, .int .i64 (-1), .int .u8 0]) (run_buildO rfl (vs := #[(0, .int .i64 0), (1, .int .i64 (-1))]) rfl _ (by kernel_rfl)) ?_; simp only [Act.put, List.setIfInBounds_toArray, List.set_cons_succ, List.set_cons_zero]) | (refine onlyO (.store 30 (.tmp 11) (.tmp 48)) rfl ?_; refine own_storeSub 6 0 30 (.tmp 11) (.tmp 48) rfl rfl rfl rfl [.int .i64 0, .int .i64 (-1), .int .u8 0] rfl (Nat.le_of_ble_eq_true rfl) rfl (by kernel_rfl) #[.int .i64 0, .int .i64 (-1), .int .u8 0] rfl _ rfl OW OZ ?_; clear OW OZ; intro W OW OZ; simp only [Act.put, List.setIfInBounds_toArray, List.set_cons_succ, List.set_cons_zero]) | (refine onlyD 51 rfl ?_; refine own_loadRowV 51 5 23 (.tmp 10) rfl rfl rfl rfl rfl _ Try.underlying23 rfl (arJ36 (show ((wordL d v)).length = 36 by simp only [wordL_len, synL_len, decL_len, List.length_set, HD.out, HV.out])) OW ?_; simp only [Act.put, List.setIfInBounds_toArray, List.set_cons_succ, List.set_cons_zero]) | (refine onlyD 52 rfl ?_; refine own_loadRowV 52 1 24 (.tmp 5) rfl rfl rfl rfl rfl _ Try.underlying24 rfl (arJ3 (show ((v.set (k - 36) ((v.getD (k - 36) 0) ^^^ a))).length = 3 by simp only [wordL_len, synL_len, decL_len, List.length_set, HD.out, HV.out])) OW ?_; simp only [Act.put, List.setIfInBounds_toArray, List.set_cons_succ, List.set_cons_zero]))
      refine ⟨trivial, ?_⟩
      refine (callsIn_wide.2 (decode_any cb fb (wordL d v) (v.set (k - 36) ((v.getD (k - 36) 0) ^^^ a)) (by simp only [wordL_len, synL_len, decL_len, List.length_set, HD.out, HV.out]) (by simp only [wordL_len, synL_len, decL_len, List.length_set, HD.out, HV.out]) _ (HCODE.out _ _ OW.out rfl rfl rfl))).mono ?_
      rintro e Wg18 ⟨rfl, hbw⟩
      obtain ⟨g18, OW2, OZ2⟩ := own_call OW OZ hbw
      clear hbw OW OZ
      have OW := OW2
      have OZ := OZ2
      clear OW2 OZ2
      gi_upto_region 15 with (first | (refine onlyD 54 rfl ?_; refine own_valV 54 rfl rfl rfl (.agg (rawV (decL (wordL d v) (v.set (k - 36) ((v.getD (k - 36) 0) ^^^ a))))) (run_extractO rfl rfl rfl) ?_; simp only [Act.put, List.setIfInBounds_toArray, List.set_cons_succ, List.set_cons_zero]) | (refine onlyD 55 rfl ?_; refine own_valV 55 rfl rfl rfl (.agg #[.int .i64 ((locF (co (synL (wordL d v) (v.set (k - 36) ((v.getD (k - 36) 0) ^^^ a))))).kind : Int), .int .i64 (locF (co (synL (wordL d v) (v.set (k - 36) ((v.getD (k - 36) 0) ^^^ a))))).place, .int .u8 ((locF (co (synL (wordL d v) (v.set (k - 36) ((v.getD (k - 36) 0) ^^^ a))))).val.toNat : Int)]) (run_extractO rfl rfl rfl) ?_; simp only [Act.put, List.setIfInBounds_toArray, List.set_cons_succ, List.set_cons_zero]) | (refine onlyD 12 rfl ?_; refine own_allocV 12 32 rfl rfl rfl (rawV (List.replicate 32 0)) al32 OW OZ ?_; clear OW OZ; intro W g19 OW OZ; simp only [Act.put, List.setIfInBounds_toArray, List.set_cons_succ, List.set_cons_zero]) | (refine onlyD 13 rfl ?_; refine own_allocV 13 30 rfl rfl rfl #[.int .i64 0, .int .i64 0, .int .u8 0] (fun _ => by kernel_rfl) OW OZ ?_; clear OW OZ; intro W g20 OW OZ; simp only [Act.put, List.setIfInBounds_toArray, List.set_cons_succ, List.set_cons_zero]) | (refine onlyO (.store 32 (.tmp 12) (.tmp 54)) rfl ?_; refine own_storeRow 7 32 (.tmp 12) (.tmp 54) rfl rfl rfl rfl (rawV (decL (wordL d v) (v.set (k - 36) ((v.getD (k - 36) 0) ^^^ a)))) rfl (by rw [rawV_size, rawV_size, (show ((decL (wordL d v) (v.set (k - 36) ((v.getD (k - 36) 0) ^^^ a)))).length = 32 by simp only [wordL_len, synL_len, decL_len, List.length_set, HD.out, HV.out]), (show ((List.replicate 32 0) : List UInt8).length = 32 from List.length_replicate)]) (rawV_one _) (arJ32 (show ((decL (wordL d v) (v.set (k - 36) ((v.getD (k - 36) 0) ^^^ a)))).length = 32 by simp only [wordL_len, synL_len, decL_len, List.length_set, HD.out, HV.out])) _ rfl OW OZ ?_; clear OW OZ; intro W OW OZ; simp only [Act.put, List.setIfInBounds_toArray, List.set_cons_succ, List.set_cons_zero]) | (refine onlyO (.store 30 (.tmp 13) (.tmp 55)) rfl ?_; refine own_storeSub 8 0 30 (.tmp 13) (.tmp 55) rfl rfl rfl rfl [.int .i64 ((locF (co (synL (wordL d v) (v.set (k - 36) ((v.getD (k - 36) 0) ^^^ a))))).kind : Int), .int .i64 (locF (co (synL (wordL d v) (v.set (k - 36) ((v.getD (k - 36) 0) ^^^ a))))).place, .int .u8 ((locF (co (synL (wordL d v) (v.set (k - 36) ((v.getD (k - 36) 0) ^^^ a))))).val.toNat : Int)] rfl (Nat.le_of_ble_eq_true rfl) rfl (by kernel_rfl) #[.int .i64 ((locF (co (synL (wordL d v) (v.set (k - 36) ((v.getD (k - 36) 0) ^^^ a))))).kind : Int), .int .i64 (locF (co (synL (wordL d v) (v.set (k - 36) ((v.getD (k - 36) 0) ^^^ a))))).place, .int .u8 ((locF (co (synL (wordL d v) (v.set (k - 36) ((v.getD (k - 36) 0) ^^^ a))))).val.toNat : Int)] rfl _ rfl OW OZ ?_; clear OW OZ; intro W OW OZ; simp only [Act.put, List.setIfInBounds_toArray, List.set_cons_succ, List.set_cons_zero]))
      refine wpIn_region_heldL 9 (atD [[], [], [0, 1], [2], [3], [3], [3, 4, 5], [3, 6], [7]]) (atV [fun vH _ => vH = .agg (rawV (decL (wordL d v) (v.set (k - 36) ((v.getD (k - 36) 0) ^^^ a)))), fun vH _ => vH = .agg (rawV d), fun vH _ => vH = .bool true, fun vH _ => vH = .bool true, fun vH _ => vH = .agg #[.int .i64 ((locF (co (synL (wordL d v) (v.set (k - 36) ((v.getD (k - 36) 0) ^^^ a))))).kind : Int), .int .i64 (locF (co (synL (wordL d v) (v.set (k - 36) ((v.getD (k - 36) 0) ^^^ a))))).place, .int .u8 ((locF (co (synL (wordL d v) (v.set (k - 36) ((v.getD (k - 36) 0) ^^^ a))))).val.toNat : Int)], fun vH _ => vH = .agg #[.int .i64 0, .int .i64 (-1), .int .u8 0], fun vH _ => vH = .bool true, fun vH _ => vH = .bool true, fun vH _ => vH = .bool true]) BelowR (by kernel_rfl) BelowR.trans (BelowR.refl _)
        (StV.atV (.const _ (.const _ (.const _ (.const _ (.const _ (.const _ (.const _ (.const _ (.const _ .nil))))))))))
        ⟨?o21x0, ?o21x1, ?o21x2, ?o21x3, ?o21x4, ?o21x5, ?o21x6, ?o21x7, ?o21x8, trivial⟩ ?_
      case o21x0 =>
        exact held_load free_wide rfl BelowR.refl 32 (.tmp 12) rfl fun xH w' kH hR => ⟨_, _, (pO (by kernel_rfl) rfl), ldR OW hR 7 rfl Try.underlying32 rfl (arJ32 (show ((decL (wordL d v) (v.set (k - 36) ((v.getD (k - 36) 0) ^^^ a)))).length = 32 by simp only [wordL_len, synL_len, decL_len, List.length_set, HD.out, HV.out])), rfl⟩
      case o21x1 =>
        exact held_load free_wide rfl BelowR.refl 32 (.tmp 4) rfl fun xH w' kH hR => ⟨_, _, (pO (by kernel_rfl) rfl), ldR OW hR 0 rfl Try.underlying32 rfl (arJ32 (show (d).length = 32 from HD.out)), rfl⟩
      case o21x2 =>
        exact held_run free_wide rfl (by rfl) BelowR.refl fun xH w' kH hR => ⟨_, run_binO rfl (pT 0 (by kernel_rfl) (by kernel_rfl) (kH 0 (by decide))) (pT 1 (by kernel_rfl) (by kernel_rfl) (kH 1 (by decide))) (by first | exact eqT (eq_ar32 _ _ (by rw [(HA.out k (by omega) (by omega)).1]; exact HD.out) HD.out _ _ _) (HA.out k (by omega) (by omega)).1 | exact eqT (eq_ar32 _ _ (by rw [(HL.out k (by omega)).1]; exact HD.out) HD.out _ _ _) (HL.out k (by omega)).1), rfl⟩
      case o21x3 =>
        exact held_move free_wide rfl BelowR.refl (.tmp 58) (.inl rfl) fun xH w' kH _ => (pT 2 (by kernel_rfl) (by kernel_rfl) (kH 2 (by decide)))
      case o21x4 =>
        exact held_loadG free_wide (heldGd_some 3 59 true rfl (by kernel_rfl) (by kernel_rfl) (by kernel_rfl) (fun xH w' kH => kH 3 (by decide))) BelowR.refl 30 (.tmp 13) rfl fun xH w' kH hR => ⟨_, _, (pO (by kernel_rfl) rfl), ldS OW hR 8 rfl 3 rfl Try.underlying30 rfl rfl (by kernel_rfl), rfl⟩
      case o21x5 =>
        exact held_loadG free_wide (heldGd_some 3 59 true rfl (by kernel_rfl) (by kernel_rfl) (by kernel_rfl) (fun xH w' kH => kH 3 (by decide))) BelowR.refl 30 (.tmp 11) rfl fun xH w' kH hR => ⟨_, _, (pO (by kernel_rfl) rfl), ldS OW hR 6 rfl 3 rfl Try.underlying30 rfl rfl (by kernel_rfl), rfl⟩
      case o21x6 =>
        exact held_runG free_wide (heldGd_some 3 59 true rfl (by kernel_rfl) (by kernel_rfl) (by kernel_rfl) (fun xH w' kH => kH 3 (by decide))) (by rfl) BelowR.refl fun xH w' kH hR => ⟨_, run_binO rfl (pT 4 (by kernel_rfl) (by kernel_rfl) (kH 4 (by decide))) (pT 5 (by kernel_rfl) (by kernel_rfl) (kH 5 (by decide))) (by first | exact vdE ((HA.out k (by omega) (by omega)).2.trans (want0 (by assumption))) _ _ _ | exact vdE ((HA.out k (by omega) (by omega)).2.trans (want2 (by assumption) (by omega))) _ _ _ | exact vdE ((HL.out k (by omega)).2.trans (want0 (by assumption))) _ _ _ | exact vdE ((HL.out k (by omega)).2.trans (want1 (by assumption) (by omega))) _ _ _), rfl⟩
      case o21x7 =>
        exact held_run free_wide rfl (by rfl) BelowR.refl fun xH w' kH hR => ⟨_, run_pickT rfl (pT 3 (by kernel_rfl) (by kernel_rfl) (kH 3 (by decide))) (pT 6 (by kernel_rfl) (by kernel_rfl) (kH 6 (by decide))), rfl⟩
      case o21x8 =>
        exact held_move free_wide rfl BelowR.refl (.tmp 63) (.inr rfl) fun xH w' kH _ => (pT 7 (by kernel_rfl) (by kernel_rfl) (kH 7 (by decide)))
      intro xH w' hv hR
      have h0 : xH 0 = _ := hv 0 (by omega)
      have h1 : xH 1 = _ := hv 1 (by omega)
      have h2 : xH 2 = _ := hv 2 (by omega)
      have h3 : xH 3 = _ := hv 3 (by omega)
      have h4 : xH 4 = _ := hv 4 (by omega)
      have h5 : xH 5 = _ := hv 5 (by omega)
      have h6 : xH 6 = _ := hv 6 (by omega)
      have h7 : xH 7 = _ := hv 7 (by omega)
      have h8 : xH 8 = _ := hv 8 (by omega)
      simp only [List.take_succ_cons, List.take_zero, List.drop_succ_cons, List.drop_zero, putsH, Act.put, List.setIfInBounds_toArray, List.set_cons_succ, List.set_cons_zero, h0, h1, h2, h3, h4, h5, h6, h7, h8]
      have OW2 := Lib.hid (OW.out.step hR)
      clear hv hR OW OZ h0 h1 h2 h3 h4 h5 h6 h7 h8
      have OW := OW2
      clear OW2
      obtain ⟨g22, OZ⟩ := own_size OW HB0
      gi_wp2
      refine leaves_own [] _ (Nat.le_of_eq HB0.out) (by simpa using OW.out) ?_
      intro W' hO
      exact ⟨.bool true, by simp [results, Try.results4, go_sem], rfl, hO.done HB0⟩
    gi_wp2_with (first | (refine onlyD 51 rfl ?_; refine own_loadRowV 51 5 23 (.tmp 10) rfl rfl rfl rfl rfl _ Try.underlying23 rfl (arJ36 (show ((wordL d v)).length = 36 by simp only [wordL_len, synL_len, decL_len, List.length_set, HD.out, HV.out])) OW ?_; simp only [Act.put, List.setIfInBounds_toArray, List.set_cons_succ, List.set_cons_zero]) | (refine onlyD 52 rfl ?_; refine own_loadRowV 52 1 24 (.tmp 5) rfl rfl rfl rfl rfl _ Try.underlying24 rfl (arJ3 (show ((v.set (k - 36) ((v.getD (k - 36) 0) ^^^ a))).length = 3 by simp only [wordL_len, synL_len, decL_len, List.length_set, HD.out, HV.out])) OW ?_; simp only [Act.put, List.setIfInBounds_toArray, List.set_cons_succ, List.set_cons_zero]))
    refine ⟨trivial, ?_⟩
    refine (callsIn_wide.2 (decode_any cb fb (wordL d v) (v.set (k - 36) ((v.getD (k - 36) 0) ^^^ a)) (by simp only [wordL_len, synL_len, decL_len, List.length_set, HD.out, HV.out]) (by simp only [wordL_len, synL_len, decL_len, List.length_set, HD.out, HV.out]) _ (HCODE.out _ _ OW.out rfl rfl rfl))).mono ?_
    rintro e Wg23 ⟨rfl, hbw⟩
    obtain ⟨g23, OW2, OZ2⟩ := own_call OW OZ hbw
    clear hbw OW OZ
    have OW := OW2
    have OZ := OZ2
    clear OW2 OZ2
    gi_upto_region 15 with (first | (refine onlyD 54 rfl ?_; refine own_valV 54 rfl rfl rfl (.agg (rawV (decL (wordL d v) (v.set (k - 36) ((v.getD (k - 36) 0) ^^^ a))))) (run_extractO rfl rfl rfl) ?_; simp only [Act.put, List.setIfInBounds_toArray, List.set_cons_succ, List.set_cons_zero]) | (refine onlyD 55 rfl ?_; refine own_valV 55 rfl rfl rfl (.agg #[.int .i64 ((locF (co (synL (wordL d v) (v.set (k - 36) ((v.getD (k - 36) 0) ^^^ a))))).kind : Int), .int .i64 (locF (co (synL (wordL d v) (v.set (k - 36) ((v.getD (k - 36) 0) ^^^ a))))).place, .int .u8 ((locF (co (synL (wordL d v) (v.set (k - 36) ((v.getD (k - 36) 0) ^^^ a))))).val.toNat : Int)]) (run_extractO rfl rfl rfl) ?_; simp only [Act.put, List.setIfInBounds_toArray, List.set_cons_succ, List.set_cons_zero]) | (refine onlyD 12 rfl ?_; refine own_allocV 12 32 rfl rfl rfl (rawV (List.replicate 32 0)) al32 OW OZ ?_; clear OW OZ; intro W g24 OW OZ; simp only [Act.put, List.setIfInBounds_toArray, List.set_cons_succ, List.set_cons_zero]) | (refine onlyD 13 rfl ?_; refine own_allocV 13 30 rfl rfl rfl #[.int .i64 0, .int .i64 0, .int .u8 0] (fun _ => by kernel_rfl) OW OZ ?_; clear OW OZ; intro W g25 OW OZ; simp only [Act.put, List.setIfInBounds_toArray, List.set_cons_succ, List.set_cons_zero]) | (refine onlyO (.store 32 (.tmp 12) (.tmp 54)) rfl ?_; refine own_storeRow 7 32 (.tmp 12) (.tmp 54) rfl rfl rfl rfl (rawV (decL (wordL d v) (v.set (k - 36) ((v.getD (k - 36) 0) ^^^ a)))) rfl (by rw [rawV_size, rawV_size, (show ((decL (wordL d v) (v.set (k - 36) ((v.getD (k - 36) 0) ^^^ a)))).length = 32 by simp only [wordL_len, synL_len, decL_len, List.length_set, HD.out, HV.out]), (show ((List.replicate 32 0) : List UInt8).length = 32 from List.length_replicate)]) (rawV_one _) (arJ32 (show ((decL (wordL d v) (v.set (k - 36) ((v.getD (k - 36) 0) ^^^ a)))).length = 32 by simp only [wordL_len, synL_len, decL_len, List.length_set, HD.out, HV.out])) _ rfl OW OZ ?_; clear OW OZ; intro W OW OZ; simp only [Act.put, List.setIfInBounds_toArray, List.set_cons_succ, List.set_cons_zero]) | (refine onlyO (.store 30 (.tmp 13) (.tmp 55)) rfl ?_; refine own_storeSub 8 0 30 (.tmp 13) (.tmp 55) rfl rfl rfl rfl [.int .i64 ((locF (co (synL (wordL d v) (v.set (k - 36) ((v.getD (k - 36) 0) ^^^ a))))).kind : Int), .int .i64 (locF (co (synL (wordL d v) (v.set (k - 36) ((v.getD (k - 36) 0) ^^^ a))))).place, .int .u8 ((locF (co (synL (wordL d v) (v.set (k - 36) ((v.getD (k - 36) 0) ^^^ a))))).val.toNat : Int)] rfl (Nat.le_of_ble_eq_true rfl) rfl (by kernel_rfl) #[.int .i64 ((locF (co (synL (wordL d v) (v.set (k - 36) ((v.getD (k - 36) 0) ^^^ a))))).kind : Int), .int .i64 (locF (co (synL (wordL d v) (v.set (k - 36) ((v.getD (k - 36) 0) ^^^ a))))).place, .int .u8 ((locF (co (synL (wordL d v) (v.set (k - 36) ((v.getD (k - 36) 0) ^^^ a))))).val.toNat : Int)] rfl _ rfl OW OZ ?_; clear OW OZ; intro W OW OZ; simp only [Act.put, List.setIfInBounds_toArray, List.set_cons_succ, List.set_cons_zero]))
    refine wpIn_region_heldL 9 (atD [[], [], [0, 1], [2], [3], [3], [3, 4, 5], [3, 6], [7]]) (atV [fun vH _ => vH = .agg (rawV (decL (wordL d v) (v.set (k - 36) ((v.getD (k - 36) 0) ^^^ a)))), fun vH _ => vH = .agg (rawV d), fun vH _ => vH = .bool true, fun vH _ => vH = .bool true, fun vH _ => vH = .agg #[.int .i64 ((locF (co (synL (wordL d v) (v.set (k - 36) ((v.getD (k - 36) 0) ^^^ a))))).kind : Int), .int .i64 (locF (co (synL (wordL d v) (v.set (k - 36) ((v.getD (k - 36) 0) ^^^ a))))).place, .int .u8 ((locF (co (synL (wordL d v) (v.set (k - 36) ((v.getD (k - 36) 0) ^^^ a))))).val.toNat : Int)], fun vH _ => vH = .agg #[.int .i64 2, .int .i64 (k : Int), .int .u8 (a.toNat : Int)], fun vH _ => vH = .bool true, fun vH _ => vH = .bool true, fun vH _ => vH = .bool true]) BelowR (by kernel_rfl) BelowR.trans (BelowR.refl _)
      (StV.atV (.const _ (.const _ (.const _ (.const _ (.const _ (.const _ (.const _ (.const _ (.const _ .nil))))))))))
      ⟨?o26x0, ?o26x1, ?o26x2, ?o26x3, ?o26x4, ?o26x5, ?o26x6, ?o26x7, ?o26x8, trivial⟩ ?_
    case o26x0 =>
      exact held_load free_wide rfl BelowR.refl 32 (.tmp 12) rfl fun xH w' kH hR => ⟨_, _, (pO (by kernel_rfl) rfl), ldR OW hR 7 rfl Try.underlying32 rfl (arJ32 (show ((decL (wordL d v) (v.set (k - 36) ((v.getD (k - 36) 0) ^^^ a)))).length = 32 by simp only [wordL_len, synL_len, decL_len, List.length_set, HD.out, HV.out])), rfl⟩
    case o26x1 =>
      exact held_load free_wide rfl BelowR.refl 32 (.tmp 4) rfl fun xH w' kH hR => ⟨_, _, (pO (by kernel_rfl) rfl), ldR OW hR 0 rfl Try.underlying32 rfl (arJ32 (show (d).length = 32 from HD.out)), rfl⟩
    case o26x2 =>
      exact held_run free_wide rfl (by rfl) BelowR.refl fun xH w' kH hR => ⟨_, run_binO rfl (pT 0 (by kernel_rfl) (by kernel_rfl) (kH 0 (by decide))) (pT 1 (by kernel_rfl) (by kernel_rfl) (kH 1 (by decide))) (by first | exact eqT (eq_ar32 _ _ (by rw [(HA.out k (by omega) (by omega)).1]; exact HD.out) HD.out _ _ _) (HA.out k (by omega) (by omega)).1 | exact eqT (eq_ar32 _ _ (by rw [(HL.out k (by omega)).1]; exact HD.out) HD.out _ _ _) (HL.out k (by omega)).1), rfl⟩
    case o26x3 =>
      exact held_move free_wide rfl BelowR.refl (.tmp 58) (.inl rfl) fun xH w' kH _ => (pT 2 (by kernel_rfl) (by kernel_rfl) (kH 2 (by decide)))
    case o26x4 =>
      exact held_loadG free_wide (heldGd_some 3 59 true rfl (by kernel_rfl) (by kernel_rfl) (by kernel_rfl) (fun xH w' kH => kH 3 (by decide))) BelowR.refl 30 (.tmp 13) rfl fun xH w' kH hR => ⟨_, _, (pO (by kernel_rfl) rfl), ldS OW hR 8 rfl 3 rfl Try.underlying30 rfl rfl (by kernel_rfl), rfl⟩
    case o26x5 =>
      exact held_loadG free_wide (heldGd_some 3 59 true rfl (by kernel_rfl) (by kernel_rfl) (by kernel_rfl) (fun xH w' kH => kH 3 (by decide))) BelowR.refl 30 (.tmp 11) rfl fun xH w' kH hR => ⟨_, _, (pO (by kernel_rfl) rfl), ldS OW hR 6 rfl 3 rfl Try.underlying30 rfl rfl (by kernel_rfl), rfl⟩
    case o26x6 =>
      exact held_runG free_wide (heldGd_some 3 59 true rfl (by kernel_rfl) (by kernel_rfl) (by kernel_rfl) (fun xH w' kH => kH 3 (by decide))) (by rfl) BelowR.refl fun xH w' kH hR => ⟨_, run_binO rfl (pT 4 (by kernel_rfl) (by kernel_rfl) (kH 4 (by decide))) (pT 5 (by kernel_rfl) (by kernel_rfl) (kH 5 (by decide))) (by first | exact vdE ((HA.out k (by omega) (by omega)).2.trans (want0 (by assumption))) _ _ _ | exact vdE ((HA.out k (by omega) (by omega)).2.trans (want2 (by assumption) (by omega))) _ _ _ | exact vdE ((HL.out k (by omega)).2.trans (want0 (by assumption))) _ _ _ | exact vdE ((HL.out k (by omega)).2.trans (want1 (by assumption) (by omega))) _ _ _), rfl⟩
    case o26x7 =>
      exact held_run free_wide rfl (by rfl) BelowR.refl fun xH w' kH hR => ⟨_, run_pickT rfl (pT 3 (by kernel_rfl) (by kernel_rfl) (kH 3 (by decide))) (pT 6 (by kernel_rfl) (by kernel_rfl) (kH 6 (by decide))), rfl⟩
    case o26x8 =>
      exact held_move free_wide rfl BelowR.refl (.tmp 63) (.inr rfl) fun xH w' kH _ => (pT 7 (by kernel_rfl) (by kernel_rfl) (kH 7 (by decide)))
    intro xH w' hv hR
    have h0 : xH 0 = _ := hv 0 (by omega)
    have h1 : xH 1 = _ := hv 1 (by omega)
    have h2 : xH 2 = _ := hv 2 (by omega)
    have h3 : xH 3 = _ := hv 3 (by omega)
    have h4 : xH 4 = _ := hv 4 (by omega)
    have h5 : xH 5 = _ := hv 5 (by omega)
    have h6 : xH 6 = _ := hv 6 (by omega)
    have h7 : xH 7 = _ := hv 7 (by omega)
    have h8 : xH 8 = _ := hv 8 (by omega)
    simp only [List.take_succ_cons, List.take_zero, List.drop_succ_cons, List.drop_zero, putsH, Act.put, List.setIfInBounds_toArray, List.set_cons_succ, List.set_cons_zero, h0, h1, h2, h3, h4, h5, h6, h7, h8]
    have OW2 := Lib.hid (OW.out.step hR)
    clear hv hR OW OZ h0 h1 h2 h3 h4 h5 h6 h7 h8
    have OW := OW2
    clear OW2
    obtain ⟨g27, OZ⟩ := own_size OW HB0
    gi_wp2
    refine leaves_own [] _ (Nat.le_of_eq HB0.out) (by simpa using OW.out) ?_
    intro W' hO
    exact ⟨.bool true, by simp [results, Try.results4, go_sem], rfl, hO.done HB0⟩
  have dhB14 := of_decide_eq_false hB14
  gi_upto_region 12 with (first | (refine onlyD 41 rfl ?_; refine own_valV 41 rfl rfl rfl (.pointer (some ⟨g9, k, none⟩)) (run_idxO (vx := .pointer (some ⟨g9, 0, none⟩)) (vi := .int .i64 (k : Int)) rfl rfl rfl (arX36 _ k (by omega) _)) ?_; simp only [Act.put, List.setIfInBounds_toArray, List.set_cons_succ, List.set_cons_zero]) | (refine onlyD 42 rfl ?_; refine own_loadV 42 5 5 (.tmp 41) rfl rfl rfl rfl rfl (.int .u8 (((wordL d v).getD k 0).toNat : Int)) (rawV_get _ (by rw [(show ((wordL d v)).length = 36 by simp only [wordL_len, synL_len, decL_len, List.length_set, HD.out, HV.out])]; omega)) naU8 OW ?_; simp only [Act.put, List.setIfInBounds_toArray, List.set_cons_succ, List.set_cons_zero]) | (refine onlyD 44 rfl ?_; refine own_valV 44 rfl rfl rfl (.int .u8 ((((wordL d v).getD k 0) ^^^ a).toNat : Int)) (run_binO (vx := .int .u8 (((wordL d v).getD k 0).toNat : Int)) (vy := .int .u8 (a.toNat : Int)) rfl rfl rfl (bin_xor8)) ?_; simp only [Act.put, List.setIfInBounds_toArray, List.set_cons_succ, List.set_cons_zero]) | (refine onlyD 45 rfl ?_; refine own_valV 45 rfl rfl rfl (.pointer (some ⟨g9, k, none⟩)) (run_idxO (vx := .pointer (some ⟨g9, 0, none⟩)) (vi := .int .i64 (k : Int)) rfl rfl rfl (arX36 _ k (by omega) _)) ?_; simp only [Act.put, List.setIfInBounds_toArray, List.set_cons_succ, List.set_cons_zero]) | (refine onlyO (.store 5 (.tmp 45) (.tmp 44)) rfl ?_; refine own_store 5 5 (.tmp 45) (.tmp 44) rfl rfl rfl rfl (.int .u8 ((((wordL d v).getD k 0) ^^^ a).toNat : Int)) rfl (rawV ((wordL d v).set k (((wordL d v).getD k 0) ^^^ a))) (rawV_set _ _ (((wordL d v).getD k 0) ^^^ a)) (by rw [rawV_size, (show ((wordL d v)).length = 36 by simp only [wordL_len, synL_len, decL_len, List.length_set, HD.out, HV.out])]; omega) rfl szU8 _ rfl OW OZ ?_; clear OW OZ; intro W OW OZ; simp only [Act.put, List.setIfInBounds_toArray, List.set_cons_succ, List.set_cons_zero]))
  obtain ⟨eo281, qeo281⟩ : ∃ e, ((a.toNat : Int) == 0) = e := ⟨_, rfl⟩
  refine wpIn_region_heldL 2 (atD [[], [0]]) (atV [fun vH _ => vH = .int .u8 (a.toNat : Int), fun vH _ => vH = .bool eo281]) BelowR (by kernel_rfl) BelowR.trans (BelowR.refl _)
    (StV.atV (.const _ (.const _ .nil)))
    ⟨?o28x0, ?o28x1, trivial⟩ ?_
  case o28x0 =>
    exact held_move free_wide rfl BelowR.refl (.tmp 3) (.inl rfl) fun xH w' kH _ => (pO (by kernel_rfl) rfl)
  case o28x1 =>
    exact held_run free_wide rfl (by rfl) BelowR.refl fun xH w' kH hR => ⟨_, run_binO rfl (pT 0 (by kernel_rfl) (by kernel_rfl) (kH 0 (by decide))) rfl bin_eql, (congrArg Value.bool qeo281)⟩
  intro xH w' hv hR
  subst qeo281
  have h0 : xH 0 = _ := hv 0 (by omega)
  have h1 : xH 1 = _ := hv 1 (by omega)
  simp only [List.take_succ_cons, List.take_zero, List.drop_succ_cons, List.drop_zero, putsH, Act.put, List.setIfInBounds_toArray, List.set_cons_succ, List.set_cons_zero, h0, h1]
  have OW2 := Lib.hid (OW.out.step hR)
  clear hv hR OW OZ h0 h1
  have OW := OW2
  clear OW2
  obtain ⟨g29, OZ⟩ := own_size OW HB0
  cases hB30 : ((a.toNat : Int) == 0)
  case true =>
    gi_wp2_with (first | (refine onlyD 48 rfl ?_; refine own_valV 48 rfl rfl rfl (.agg #[.int .i64 0, .int .i64 (-1), .int .u8 0]) (run_buildO rfl (vs := #[(0, .int .i64 0), (1, .int .i64 (-1))]) rfl _ (by kernel_rfl)) ?_; simp only [Act.put, List.setIfInBounds_toArray, List.set_cons_succ, List.set_cons_zero]) | (refine onlyO (.store 30 (.tmp 11) (.tmp 48)) rfl ?_; refine own_storeSub 6 0 30 (.tmp 11) (.tmp 48) rfl rfl rfl rfl [.int .i64 0, .int .i64 (-1), .int .u8 0] rfl (Nat.le_of_ble_eq_true rfl) rfl (by kernel_rfl) #[.int .i64 0, .int .i64 (-1), .int .u8 0] rfl _ rfl OW OZ ?_; clear OW OZ; intro W OW OZ; simp only [Act.put, List.setIfInBounds_toArray, List.set_cons_succ, List.set_cons_zero]) | (refine onlyD 51 rfl ?_; refine own_loadRowV 51 5 23 (.tmp 10) rfl rfl rfl rfl rfl _ Try.underlying23 rfl (arJ36 (show (((wordL d v).set k (((wordL d v).getD k 0) ^^^ a))).length = 36 by simp only [wordL_len, synL_len, decL_len, List.length_set, HD.out, HV.out])) OW ?_; simp only [Act.put, List.setIfInBounds_toArray, List.set_cons_succ, List.set_cons_zero]) | (refine onlyD 52 rfl ?_; refine own_loadRowV 52 1 24 (.tmp 5) rfl rfl rfl rfl rfl _ Try.underlying24 rfl (arJ3 (show (v).length = 3 from HV.out)) OW ?_; simp only [Act.put, List.setIfInBounds_toArray, List.set_cons_succ, List.set_cons_zero]))
    refine ⟨trivial, ?_⟩
    refine (callsIn_wide.2 (decode_any cb fb ((wordL d v).set k (((wordL d v).getD k 0) ^^^ a)) v (by simp only [wordL_len, synL_len, decL_len, List.length_set, HD.out, HV.out]) (HV.out) _ (HCODE.out _ _ OW.out rfl rfl rfl))).mono ?_
    rintro e Wg31 ⟨rfl, hbw⟩
    obtain ⟨g31, OW2, OZ2⟩ := own_call OW OZ hbw
    clear hbw OW OZ
    have OW := OW2
    have OZ := OZ2
    clear OW2 OZ2
    gi_upto_region 15 with (first | (refine onlyD 54 rfl ?_; refine own_valV 54 rfl rfl rfl (.agg (rawV (decL ((wordL d v).set k (((wordL d v).getD k 0) ^^^ a)) v))) (run_extractO rfl rfl rfl) ?_; simp only [Act.put, List.setIfInBounds_toArray, List.set_cons_succ, List.set_cons_zero]) | (refine onlyD 55 rfl ?_; refine own_valV 55 rfl rfl rfl (.agg #[.int .i64 ((locF (co (synL ((wordL d v).set k (((wordL d v).getD k 0) ^^^ a)) v))).kind : Int), .int .i64 (locF (co (synL ((wordL d v).set k (((wordL d v).getD k 0) ^^^ a)) v))).place, .int .u8 ((locF (co (synL ((wordL d v).set k (((wordL d v).getD k 0) ^^^ a)) v))).val.toNat : Int)]) (run_extractO rfl rfl rfl) ?_; simp only [Act.put, List.setIfInBounds_toArray, List.set_cons_succ, List.set_cons_zero]) | (refine onlyD 12 rfl ?_; refine own_allocV 12 32 rfl rfl rfl (rawV (List.replicate 32 0)) al32 OW OZ ?_; clear OW OZ; intro W g32 OW OZ; simp only [Act.put, List.setIfInBounds_toArray, List.set_cons_succ, List.set_cons_zero]) | (refine onlyD 13 rfl ?_; refine own_allocV 13 30 rfl rfl rfl #[.int .i64 0, .int .i64 0, .int .u8 0] (fun _ => by kernel_rfl) OW OZ ?_; clear OW OZ; intro W g33 OW OZ; simp only [Act.put, List.setIfInBounds_toArray, List.set_cons_succ, List.set_cons_zero]) | (refine onlyO (.store 32 (.tmp 12) (.tmp 54)) rfl ?_; refine own_storeRow 7 32 (.tmp 12) (.tmp 54) rfl rfl rfl rfl (rawV (decL ((wordL d v).set k (((wordL d v).getD k 0) ^^^ a)) v)) rfl (by rw [rawV_size, rawV_size, (show ((decL ((wordL d v).set k (((wordL d v).getD k 0) ^^^ a)) v)).length = 32 by simp only [wordL_len, synL_len, decL_len, List.length_set, HD.out, HV.out]), (show ((List.replicate 32 0) : List UInt8).length = 32 from List.length_replicate)]) (rawV_one _) (arJ32 (show ((decL ((wordL d v).set k (((wordL d v).getD k 0) ^^^ a)) v)).length = 32 by simp only [wordL_len, synL_len, decL_len, List.length_set, HD.out, HV.out])) _ rfl OW OZ ?_; clear OW OZ; intro W OW OZ; simp only [Act.put, List.setIfInBounds_toArray, List.set_cons_succ, List.set_cons_zero]) | (refine onlyO (.store 30 (.tmp 13) (.tmp 55)) rfl ?_; refine own_storeSub 8 0 30 (.tmp 13) (.tmp 55) rfl rfl rfl rfl [.int .i64 ((locF (co (synL ((wordL d v).set k (((wordL d v).getD k 0) ^^^ a)) v))).kind : Int), .int .i64 (locF (co (synL ((wordL d v).set k (((wordL d v).getD k 0) ^^^ a)) v))).place, .int .u8 ((locF (co (synL ((wordL d v).set k (((wordL d v).getD k 0) ^^^ a)) v))).val.toNat : Int)] rfl (Nat.le_of_ble_eq_true rfl) rfl (by kernel_rfl) #[.int .i64 ((locF (co (synL ((wordL d v).set k (((wordL d v).getD k 0) ^^^ a)) v))).kind : Int), .int .i64 (locF (co (synL ((wordL d v).set k (((wordL d v).getD k 0) ^^^ a)) v))).place, .int .u8 ((locF (co (synL ((wordL d v).set k (((wordL d v).getD k 0) ^^^ a)) v))).val.toNat : Int)] rfl _ rfl OW OZ ?_; clear OW OZ; intro W OW OZ; simp only [Act.put, List.setIfInBounds_toArray, List.set_cons_succ, List.set_cons_zero]))
    refine wpIn_region_heldL 9 (atD [[], [], [0, 1], [2], [3], [3], [3, 4, 5], [3, 6], [7]]) (atV [fun vH _ => vH = .agg (rawV (decL ((wordL d v).set k (((wordL d v).getD k 0) ^^^ a)) v)), fun vH _ => vH = .agg (rawV d), fun vH _ => vH = .bool true, fun vH _ => vH = .bool true, fun vH _ => vH = .agg #[.int .i64 ((locF (co (synL ((wordL d v).set k (((wordL d v).getD k 0) ^^^ a)) v))).kind : Int), .int .i64 (locF (co (synL ((wordL d v).set k (((wordL d v).getD k 0) ^^^ a)) v))).place, .int .u8 ((locF (co (synL ((wordL d v).set k (((wordL d v).getD k 0) ^^^ a)) v))).val.toNat : Int)], fun vH _ => vH = .agg #[.int .i64 0, .int .i64 (-1), .int .u8 0], fun vH _ => vH = .bool true, fun vH _ => vH = .bool true, fun vH _ => vH = .bool true]) BelowR (by kernel_rfl) BelowR.trans (BelowR.refl _)
      (StV.atV (.const _ (.const _ (.const _ (.const _ (.const _ (.const _ (.const _ (.const _ (.const _ .nil))))))))))
      ⟨?o34x0, ?o34x1, ?o34x2, ?o34x3, ?o34x4, ?o34x5, ?o34x6, ?o34x7, ?o34x8, trivial⟩ ?_
    case o34x0 =>
      exact held_load free_wide rfl BelowR.refl 32 (.tmp 12) rfl fun xH w' kH hR => ⟨_, _, (pO (by kernel_rfl) rfl), ldR OW hR 7 rfl Try.underlying32 rfl (arJ32 (show ((decL ((wordL d v).set k (((wordL d v).getD k 0) ^^^ a)) v)).length = 32 by simp only [wordL_len, synL_len, decL_len, List.length_set, HD.out, HV.out])), rfl⟩
    case o34x1 =>
      exact held_load free_wide rfl BelowR.refl 32 (.tmp 4) rfl fun xH w' kH hR => ⟨_, _, (pO (by kernel_rfl) rfl), ldR OW hR 0 rfl Try.underlying32 rfl (arJ32 (show (d).length = 32 from HD.out)), rfl⟩
    case o34x2 =>
      exact held_run free_wide rfl (by rfl) BelowR.refl fun xH w' kH hR => ⟨_, run_binO rfl (pT 0 (by kernel_rfl) (by kernel_rfl) (kH 0 (by decide))) (pT 1 (by kernel_rfl) (by kernel_rfl) (kH 1 (by decide))) (by first | exact eqT (eq_ar32 _ _ (by rw [(HA.out k (by omega) (by omega)).1]; exact HD.out) HD.out _ _ _) (HA.out k (by omega) (by omega)).1 | exact eqT (eq_ar32 _ _ (by rw [(HL.out k (by omega)).1]; exact HD.out) HD.out _ _ _) (HL.out k (by omega)).1), rfl⟩
    case o34x3 =>
      exact held_move free_wide rfl BelowR.refl (.tmp 58) (.inl rfl) fun xH w' kH _ => (pT 2 (by kernel_rfl) (by kernel_rfl) (kH 2 (by decide)))
    case o34x4 =>
      exact held_loadG free_wide (heldGd_some 3 59 true rfl (by kernel_rfl) (by kernel_rfl) (by kernel_rfl) (fun xH w' kH => kH 3 (by decide))) BelowR.refl 30 (.tmp 13) rfl fun xH w' kH hR => ⟨_, _, (pO (by kernel_rfl) rfl), ldS OW hR 8 rfl 3 rfl Try.underlying30 rfl rfl (by kernel_rfl), rfl⟩
    case o34x5 =>
      exact held_loadG free_wide (heldGd_some 3 59 true rfl (by kernel_rfl) (by kernel_rfl) (by kernel_rfl) (fun xH w' kH => kH 3 (by decide))) BelowR.refl 30 (.tmp 11) rfl fun xH w' kH hR => ⟨_, _, (pO (by kernel_rfl) rfl), ldS OW hR 6 rfl 3 rfl Try.underlying30 rfl rfl (by kernel_rfl), rfl⟩
    case o34x6 =>
      exact held_runG free_wide (heldGd_some 3 59 true rfl (by kernel_rfl) (by kernel_rfl) (by kernel_rfl) (fun xH w' kH => kH 3 (by decide))) (by rfl) BelowR.refl fun xH w' kH hR => ⟨_, run_binO rfl (pT 4 (by kernel_rfl) (by kernel_rfl) (kH 4 (by decide))) (pT 5 (by kernel_rfl) (by kernel_rfl) (kH 5 (by decide))) (by first | exact vdE ((HA.out k (by omega) (by omega)).2.trans (want0 (by assumption))) _ _ _ | exact vdE ((HA.out k (by omega) (by omega)).2.trans (want2 (by assumption) (by omega))) _ _ _ | exact vdE ((HL.out k (by omega)).2.trans (want0 (by assumption))) _ _ _ | exact vdE ((HL.out k (by omega)).2.trans (want1 (by assumption) (by omega))) _ _ _), rfl⟩
    case o34x7 =>
      exact held_run free_wide rfl (by rfl) BelowR.refl fun xH w' kH hR => ⟨_, run_pickT rfl (pT 3 (by kernel_rfl) (by kernel_rfl) (kH 3 (by decide))) (pT 6 (by kernel_rfl) (by kernel_rfl) (kH 6 (by decide))), rfl⟩
    case o34x8 =>
      exact held_move free_wide rfl BelowR.refl (.tmp 63) (.inr rfl) fun xH w' kH _ => (pT 7 (by kernel_rfl) (by kernel_rfl) (kH 7 (by decide)))
    intro xH w' hv hR
    have h0 : xH 0 = _ := hv 0 (by omega)
    have h1 : xH 1 = _ := hv 1 (by omega)
    have h2 : xH 2 = _ := hv 2 (by omega)
    have h3 : xH 3 = _ := hv 3 (by omega)
    have h4 : xH 4 = _ := hv 4 (by omega)
    have h5 : xH 5 = _ := hv 5 (by omega)
    have h6 : xH 6 = _ := hv 6 (by omega)
    have h7 : xH 7 = _ := hv 7 (by omega)
    have h8 : xH 8 = _ := hv 8 (by omega)
    simp only [List.take_succ_cons, List.take_zero, List.drop_succ_cons, List.drop_zero, putsH, Act.put, List.setIfInBounds_toArray, List.set_cons_succ, List.set_cons_zero, h0, h1, h2, h3, h4, h5, h6, h7, h8]
    have OW2 := Lib.hid (OW.out.step hR)
    clear hv hR OW OZ h0 h1 h2 h3 h4 h5 h6 h7 h8
    have OW := OW2
    clear OW2
    obtain ⟨g35, OZ⟩ := own_size OW HB0
    gi_wp2
    refine leaves_own [] _ (Nat.le_of_eq HB0.out) (by simpa using OW.out) ?_
    intro W' hO
    exact ⟨.bool true, by simp [results, Try.results4, go_sem], rfl, hO.done HB0⟩
  gi_wp2_with (first | (refine onlyD 51 rfl ?_; refine own_loadRowV 51 5 23 (.tmp 10) rfl rfl rfl rfl rfl _ Try.underlying23 rfl (arJ36 (show (((wordL d v).set k (((wordL d v).getD k 0) ^^^ a))).length = 36 by simp only [wordL_len, synL_len, decL_len, List.length_set, HD.out, HV.out])) OW ?_; simp only [Act.put, List.setIfInBounds_toArray, List.set_cons_succ, List.set_cons_zero]) | (refine onlyD 52 rfl ?_; refine own_loadRowV 52 1 24 (.tmp 5) rfl rfl rfl rfl rfl _ Try.underlying24 rfl (arJ3 (show (v).length = 3 from HV.out)) OW ?_; simp only [Act.put, List.setIfInBounds_toArray, List.set_cons_succ, List.set_cons_zero]))
  refine ⟨trivial, ?_⟩
  refine (callsIn_wide.2 (decode_any cb fb ((wordL d v).set k (((wordL d v).getD k 0) ^^^ a)) v (by simp only [wordL_len, synL_len, decL_len, List.length_set, HD.out, HV.out]) (HV.out) _ (HCODE.out _ _ OW.out rfl rfl rfl))).mono ?_
  rintro e Wg36 ⟨rfl, hbw⟩
  obtain ⟨g36, OW2, OZ2⟩ := own_call OW OZ hbw
  clear hbw OW OZ
  have OW := OW2
  have OZ := OZ2
  clear OW2 OZ2
  gi_upto_region 15 with (first | (refine onlyD 54 rfl ?_; refine own_valV 54 rfl rfl rfl (.agg (rawV (decL ((wordL d v).set k (((wordL d v).getD k 0) ^^^ a)) v))) (run_extractO rfl rfl rfl) ?_; simp only [Act.put, List.setIfInBounds_toArray, List.set_cons_succ, List.set_cons_zero]) | (refine onlyD 55 rfl ?_; refine own_valV 55 rfl rfl rfl (.agg #[.int .i64 ((locF (co (synL ((wordL d v).set k (((wordL d v).getD k 0) ^^^ a)) v))).kind : Int), .int .i64 (locF (co (synL ((wordL d v).set k (((wordL d v).getD k 0) ^^^ a)) v))).place, .int .u8 ((locF (co (synL ((wordL d v).set k (((wordL d v).getD k 0) ^^^ a)) v))).val.toNat : Int)]) (run_extractO rfl rfl rfl) ?_; simp only [Act.put, List.setIfInBounds_toArray, List.set_cons_succ, List.set_cons_zero]) | (refine onlyD 12 rfl ?_; refine own_allocV 12 32 rfl rfl rfl (rawV (List.replicate 32 0)) al32 OW OZ ?_; clear OW OZ; intro W g37 OW OZ; simp only [Act.put, List.setIfInBounds_toArray, List.set_cons_succ, List.set_cons_zero]) | (refine onlyD 13 rfl ?_; refine own_allocV 13 30 rfl rfl rfl #[.int .i64 0, .int .i64 0, .int .u8 0] (fun _ => by kernel_rfl) OW OZ ?_; clear OW OZ; intro W g38 OW OZ; simp only [Act.put, List.setIfInBounds_toArray, List.set_cons_succ, List.set_cons_zero]) | (refine onlyO (.store 32 (.tmp 12) (.tmp 54)) rfl ?_; refine own_storeRow 7 32 (.tmp 12) (.tmp 54) rfl rfl rfl rfl (rawV (decL ((wordL d v).set k (((wordL d v).getD k 0) ^^^ a)) v)) rfl (by rw [rawV_size, rawV_size, (show ((decL ((wordL d v).set k (((wordL d v).getD k 0) ^^^ a)) v)).length = 32 by simp only [wordL_len, synL_len, decL_len, List.length_set, HD.out, HV.out]), (show ((List.replicate 32 0) : List UInt8).length = 32 from List.length_replicate)]) (rawV_one _) (arJ32 (show ((decL ((wordL d v).set k (((wordL d v).getD k 0) ^^^ a)) v)).length = 32 by simp only [wordL_len, synL_len, decL_len, List.length_set, HD.out, HV.out])) _ rfl OW OZ ?_; clear OW OZ; intro W OW OZ; simp only [Act.put, List.setIfInBounds_toArray, List.set_cons_succ, List.set_cons_zero]) | (refine onlyO (.store 30 (.tmp 13) (.tmp 55)) rfl ?_; refine own_storeSub 8 0 30 (.tmp 13) (.tmp 55) rfl rfl rfl rfl [.int .i64 ((locF (co (synL ((wordL d v).set k (((wordL d v).getD k 0) ^^^ a)) v))).kind : Int), .int .i64 (locF (co (synL ((wordL d v).set k (((wordL d v).getD k 0) ^^^ a)) v))).place, .int .u8 ((locF (co (synL ((wordL d v).set k (((wordL d v).getD k 0) ^^^ a)) v))).val.toNat : Int)] rfl (Nat.le_of_ble_eq_true rfl) rfl (by kernel_rfl) #[.int .i64 ((locF (co (synL ((wordL d v).set k (((wordL d v).getD k 0) ^^^ a)) v))).kind : Int), .int .i64 (locF (co (synL ((wordL d v).set k (((wordL d v).getD k 0) ^^^ a)) v))).place, .int .u8 ((locF (co (synL ((wordL d v).set k (((wordL d v).getD k 0) ^^^ a)) v))).val.toNat : Int)] rfl _ rfl OW OZ ?_; clear OW OZ; intro W OW OZ; simp only [Act.put, List.setIfInBounds_toArray, List.set_cons_succ, List.set_cons_zero]))
  refine wpIn_region_heldL 9 (atD [[], [], [0, 1], [2], [3], [3], [3, 4, 5], [3, 6], [7]]) (atV [fun vH _ => vH = .agg (rawV (decL ((wordL d v).set k (((wordL d v).getD k 0) ^^^ a)) v)), fun vH _ => vH = .agg (rawV d), fun vH _ => vH = .bool true, fun vH _ => vH = .bool true, fun vH _ => vH = .agg #[.int .i64 ((locF (co (synL ((wordL d v).set k (((wordL d v).getD k 0) ^^^ a)) v))).kind : Int), .int .i64 (locF (co (synL ((wordL d v).set k (((wordL d v).getD k 0) ^^^ a)) v))).place, .int .u8 ((locF (co (synL ((wordL d v).set k (((wordL d v).getD k 0) ^^^ a)) v))).val.toNat : Int)], fun vH _ => vH = .agg #[.int .i64 1, .int .i64 (k : Int), .int .u8 (a.toNat : Int)], fun vH _ => vH = .bool true, fun vH _ => vH = .bool true, fun vH _ => vH = .bool true]) BelowR (by kernel_rfl) BelowR.trans (BelowR.refl _)
    (StV.atV (.const _ (.const _ (.const _ (.const _ (.const _ (.const _ (.const _ (.const _ (.const _ .nil))))))))))
    ⟨?o39x0, ?o39x1, ?o39x2, ?o39x3, ?o39x4, ?o39x5, ?o39x6, ?o39x7, ?o39x8, trivial⟩ ?_
  case o39x0 =>
    exact held_load free_wide rfl BelowR.refl 32 (.tmp 12) rfl fun xH w' kH hR => ⟨_, _, (pO (by kernel_rfl) rfl), ldR OW hR 7 rfl Try.underlying32 rfl (arJ32 (show ((decL ((wordL d v).set k (((wordL d v).getD k 0) ^^^ a)) v)).length = 32 by simp only [wordL_len, synL_len, decL_len, List.length_set, HD.out, HV.out])), rfl⟩
  case o39x1 =>
    exact held_load free_wide rfl BelowR.refl 32 (.tmp 4) rfl fun xH w' kH hR => ⟨_, _, (pO (by kernel_rfl) rfl), ldR OW hR 0 rfl Try.underlying32 rfl (arJ32 (show (d).length = 32 from HD.out)), rfl⟩
  case o39x2 =>
    exact held_run free_wide rfl (by rfl) BelowR.refl fun xH w' kH hR => ⟨_, run_binO rfl (pT 0 (by kernel_rfl) (by kernel_rfl) (kH 0 (by decide))) (pT 1 (by kernel_rfl) (by kernel_rfl) (kH 1 (by decide))) (by first | exact eqT (eq_ar32 _ _ (by rw [(HA.out k (by omega) (by omega)).1]; exact HD.out) HD.out _ _ _) (HA.out k (by omega) (by omega)).1 | exact eqT (eq_ar32 _ _ (by rw [(HL.out k (by omega)).1]; exact HD.out) HD.out _ _ _) (HL.out k (by omega)).1), rfl⟩
  case o39x3 =>
    exact held_move free_wide rfl BelowR.refl (.tmp 58) (.inl rfl) fun xH w' kH _ => (pT 2 (by kernel_rfl) (by kernel_rfl) (kH 2 (by decide)))
  case o39x4 =>
    exact held_loadG free_wide (heldGd_some 3 59 true rfl (by kernel_rfl) (by kernel_rfl) (by kernel_rfl) (fun xH w' kH => kH 3 (by decide))) BelowR.refl 30 (.tmp 13) rfl fun xH w' kH hR => ⟨_, _, (pO (by kernel_rfl) rfl), ldS OW hR 8 rfl 3 rfl Try.underlying30 rfl rfl (by kernel_rfl), rfl⟩
  case o39x5 =>
    exact held_loadG free_wide (heldGd_some 3 59 true rfl (by kernel_rfl) (by kernel_rfl) (by kernel_rfl) (fun xH w' kH => kH 3 (by decide))) BelowR.refl 30 (.tmp 11) rfl fun xH w' kH hR => ⟨_, _, (pO (by kernel_rfl) rfl), ldS OW hR 6 rfl 3 rfl Try.underlying30 rfl rfl (by kernel_rfl), rfl⟩
  case o39x6 =>
    exact held_runG free_wide (heldGd_some 3 59 true rfl (by kernel_rfl) (by kernel_rfl) (by kernel_rfl) (fun xH w' kH => kH 3 (by decide))) (by rfl) BelowR.refl fun xH w' kH hR => ⟨_, run_binO rfl (pT 4 (by kernel_rfl) (by kernel_rfl) (kH 4 (by decide))) (pT 5 (by kernel_rfl) (by kernel_rfl) (kH 5 (by decide))) (by first | exact vdE ((HA.out k (by omega) (by omega)).2.trans (want0 (by assumption))) _ _ _ | exact vdE ((HA.out k (by omega) (by omega)).2.trans (want2 (by assumption) (by omega))) _ _ _ | exact vdE ((HL.out k (by omega)).2.trans (want0 (by assumption))) _ _ _ | exact vdE ((HL.out k (by omega)).2.trans (want1 (by assumption) (by omega))) _ _ _), rfl⟩
  case o39x7 =>
    exact held_run free_wide rfl (by rfl) BelowR.refl fun xH w' kH hR => ⟨_, run_pickT rfl (pT 3 (by kernel_rfl) (by kernel_rfl) (kH 3 (by decide))) (pT 6 (by kernel_rfl) (by kernel_rfl) (kH 6 (by decide))), rfl⟩
  case o39x8 =>
    exact held_move free_wide rfl BelowR.refl (.tmp 63) (.inr rfl) fun xH w' kH _ => (pT 7 (by kernel_rfl) (by kernel_rfl) (kH 7 (by decide)))
  intro xH w' hv hR
  have h0 : xH 0 = _ := hv 0 (by omega)
  have h1 : xH 1 = _ := hv 1 (by omega)
  have h2 : xH 2 = _ := hv 2 (by omega)
  have h3 : xH 3 = _ := hv 3 (by omega)
  have h4 : xH 4 = _ := hv 4 (by omega)
  have h5 : xH 5 = _ := hv 5 (by omega)
  have h6 : xH 6 = _ := hv 6 (by omega)
  have h7 : xH 7 = _ := hv 7 (by omega)
  have h8 : xH 8 = _ := hv 8 (by omega)
  simp only [List.take_succ_cons, List.take_zero, List.drop_succ_cons, List.drop_zero, putsH, Act.put, List.setIfInBounds_toArray, List.set_cons_succ, List.set_cons_zero, h0, h1, h2, h3, h4, h5, h6, h7, h8]
  have OW2 := Lib.hid (OW.out.step hR)
  clear hv hR OW OZ h0 h1 h2 h3 h4 h5 h6 h7 h8
  have OW := OW2
  clear OW2
  obtain ⟨g40, OZ⟩ := own_size OW HB0
  gi_wp2
  refine leaves_own [] _ (Nat.le_of_eq HB0.out) (by simpa using OW.out) ?_
  intro W' hO
  exact ⟨.bool true, by simp [results, Try.results4, go_sem], rfl, hO.done HB0⟩
end Go.Proofs.Ytdgflbbffimpkaa
