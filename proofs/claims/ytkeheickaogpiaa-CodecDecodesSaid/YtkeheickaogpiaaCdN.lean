/- The reference's decoding. -/
import Derived.Test.YtkeheickaogpiaaCdL
import Derived.Test.YtkeheickaogpiaaCdM
import Derived.Test.YtkeheickaogpiaaCmC
import Derived.WalkKit
import Derived.Sort.CutIn
import Derived.IntWalk
namespace Go.Proofs.Ytkeheickaogpiaa
open Go Go.RowKit Go.Shelf
attribute [local go_sem] Oper.semAt_some
set_option linter.unusedVariables false
set_option linter.unusedSimpArgs false


theorem jK_rs (f : Nat → Int) (n : Nat) : jK ((List.range (n + 1)).map f) = max (jK ((List.range n).map f)) (f n) := by rw [List.range_succ, List.map_append]; exact jK_snoc _ _
theorem jF_rs (f : Nat → Int) (n : Nat) : jF ((List.range (n + 1)).map f) = jF ((List.range n).map f) + dflag_0 (f n == 1) := by rw [List.range_succ, List.map_append]; exact jF_snoc _ _
theorem jF_st1 {f : Nat → Int} {n : Nat} (h : (f n == 1) = true) : jF ((List.range n).map f) + 1 = jF ((List.range (n + 1)).map f) := by rw [jF_rs, h]; rfl
theorem jF_st0 {f : Nat → Int} {n : Nat} (h : (f n == 1) = false) : jF ((List.range n).map f) = jF ((List.range (n + 1)).map f) := by rw [jF_rs, h]; exact (Int.add_zero _).symm
theorem jF_rg (f : Nat → Int) {n : Nat} (h : n ≤ 8) : 0 ≤ jF ((List.range n).map f) ∧ jF ((List.range n).map f) ≤ 8 := by
  have := jF_bd ((List.range n).map f)
  rw [List.length_map, List.length_range] at this
  omega
theorem jF_none (l : List Int) : (∀ x, x ∈ l → x ≠ 1) → ∀ a : Int, l.foldl (fun a k => a + dflag_0 (k == 1)) a = a := by
  induction l with
  | nil => intro _ a; rfl
  | cons y l ih =>
    intro h a
    rw [List.foldl_cons, ih (fun x hx => h x (List.mem_cons_of_mem _ hx))]
    have h1 : (y == 1) = false := by rw [beq_eq_false_iff_ne]; exact h y List.mem_cons_self
    rw [h1]
    exact Int.add_zero a
theorem dj_bad {l : List Int} (h : 2 ≤ jK l) : djoin_0 l = 0 := by
  unfold djoin_0
  rw [bne_iff_ne.2 (by omega), cond_true]
theorem dj_ok {l : List Int} (h : jK l ≤ 1) : djoin_0 l = jF l := by
  unfold djoin_0
  by_cases h1 : jK l = 1
  · rw [h1]; rfl
  · rw [bne_iff_ne.2 h1, cond_true]
    refine (jF_none l (fun x hx => ?_) 0).symm
    have := jK_ge hx
    omega
theorem dec1_ok {r : List UInt8} {x : Int} (h : jK ((List.range 8).map (dK r x)) ≤ 1) : dDec1_0 r x = fillL 64 (fwB (fillG 0 8 (dW r x) 8)) (8 * 8) := by
  unfold dDec1_0
  rw [decide_eq_false (by omega), cond_false]
theorem fwB_dW {r : List UInt8} {x : Int} {k i : Nat} (hk : k < 8) (hi : i < 8) : fwB (fillG 0 8 (dW r x) 8) (8 * k + i) = UInt8.ofNat (dW r x k / 256 ^ i % 256) := by
  rw [fwB_at hi, fillG_get hk, if_pos hk, Nat.pow_mul, show (2 : Nat) ^ 8 = 256 from rfl]
  apply UInt8.toNat_inj.1
  rw [UInt8.toNat_ofNat', UInt8.toNat_ofNat']
  omega
theorem dq_succ (x k : Nat) : x / 256 ^ k / 256 = x / 256 ^ (k + 1) := by rw [Nat.pow_succ, Nat.div_div_eq_div_mul]
/-- The halves' bytes. -/
def hB (r : List UInt8) (x : Int) (i : Nat) : UInt8 := (cW r x (i / 32)).getD (i % 32) 0
theorem hB_at {r : List UInt8} {x : Int} {k i : Nat} (hi : i < 32) : hB r x (32 * k + i) = (cW r x k).getD i 0 := by
  unfold hB
  rw [show (32 * k + i) / 32 = k by omega, show (32 * k + i) % 32 = i by omega]
theorem bad2' {r : List UInt8} {x : Int} (h : 2 ≤ jK ((List.range 2).map (cK r x))) : dDec2_0 r x = List.replicate 64 0 := by
  unfold dDec2_0
  rw [decide_eq_true h, cond_true]
theorem dec2_ok {r : List UInt8} (hr : r.length = 72) {x : Int} (h : jK ((List.range 2).map (cK r x)) ≤ 1) : dDec2_0 r x = fillL 64 (hB r x) (32 * 2) := by
  unfold dDec2_0
  rw [decide_eq_false (by omega), cond_false, halfT_two (hvT_len (cWx_len hr x) (Nat.le_refl 2))]
  have e : hvT (cWx r x) 2 = cW r x 0 ++ cW r x 1 := by
    show (cWx r x 0 ++ (cWx r x 1 ++ [])) ++ [] = _
    rw [List.append_nil, List.append_nil, cWx_lt (by decide), cWx_lt (by decide)]
  have l0 : (cW r x 0).length = 32 := cW_len (w36_len hr (by decide))
  have l1 : (cW r x 1).length = 32 := cW_len (w36_len hr (by decide))
  rw [e]
  refine list_ext (by rw [fillL_len, List.length_append, l0, l1]) fun i hi => ?_
  rw [List.length_append, l0, l1] at hi
  show (cW r x 0 ++ cW r x 1).getD i 0 = (fillL 64 (hB r x) (32 * 2)).getD i 0
  rw [fillL_get (by omega), if_pos (by omega)]
  unfold hB
  rcases Nat.lt_or_ge i 32 with h1 | h1
  · rw [show i / 32 = 0 by omega, show i % 32 = i by omega, List.getD_eq_getElem?_getD, List.getElem?_append_left (by omega), ← List.getD_eq_getElem?_getD]
  · rw [show i / 32 = 1 by omega, show i % 32 = i - 32 by omega, List.getD_eq_getElem?_getD, List.getElem?_append_right (by omega), l0, ← List.getD_eq_getElem?_getD]
theorem rbits2_any (r : List UInt8) (hr : r.length = 72) (q : Nat) (hq : q < 8) (x : Int) (h0 : -9223372036854775808 ≤ x) (h1 : x ≤ 9223372036854775807) (w : World) : Calls Try.prog 42 #[.agg (rB 74 colsB).toArray, .agg (rB 72 r).toArray, .int .i64 (q : Int), .int .i64 x] w fun e w' => e = .returned (.tuple #[.int .u64 ((dW r x q : Nat) : Int), .int .i64 (dK r x q)]) ∧ Below w.heap.size w w' := by
  have h := rbits_any r hr q hq x h0 h1 w
  have e1 : k5 (Hs.verdict (bS r q x).toNat).1 = dK r x q := by
    rw [bS_w]; exact k5_K (w9 r q) x
  rw [bD_w, e1] at h
  exact h
theorem locF_kind (s : Nat → UInt8) : (locF s).kind ≤ 3 := by
  unfold locF
  split
  · exact Nat.zero_le 3
  · split
    · split <;> simp
    · exact Nat.le_refl 3
theorem kinds_eq (V : Vd) (hk : V.kind ≤ 3) : (((bif ((V.kind : Nat) : Int) == 1 then (bif (((V.kind : Nat) : Int) == 2) && ((V.place != 38) || ((V.val.toNat : Int) != 128)) then 3 else V.kind) else (bif (((V.kind : Nat) : Int) == 2) && ((V.place != 38) || ((V.val.toNat : Int) != 128)) then 3 else V.kind)) : Nat) : Int) = (bif ((V.kind : Nat) : Int) == 0 then 0 else (bif ((V.kind : Nat) : Int) == 1 then 1 else (bif ((((V.kind : Nat) : Int) == 2) && (V.place == 38)) && ((V.val.toNat : Int) == 128) then 2 else 3))) := by
  obtain ⟨kd, pl, a⟩ := V
  have hk2 : kd ≤ 3 := hk
  rcases (show kd = 0 ∨ kd = 1 ∨ kd = 2 ∨ kd = 3 by omega) with rfl | rfl | rfl | rfl
  · rfl
  · rfl
  · show (((bif (pl != 38) || ((a.toNat : Int) != 128) then 3 else 2) : Nat) : Int) = (bif (pl == 38) && ((a.toNat : Int) == 128) then 2 else 3)
    cases h1 : (pl == 38) <;> cases h2 : ((a.toNat : Int) == 128) <;> simp only [bne, h1, h2] <;> rfl
  · rfl
theorem rchips2_any (r : List UInt8) (hr : r.length = 72) (q : Nat) (hq : q < 2) (x : Int) (h0 : -9223372036854775808 ≤ x) (h1 : x ≤ 9223372036854775807) (w : World) : Calls Try.prog 43 #[.agg (rB 72 r).toArray, .int .i64 (q : Int), .int .i64 x] w fun e w' => e = .returned (.tuple #[.agg (rB 32 (cW r x q)).toArray, .int .i64 (cK r x q)]) ∧ Below w.heap.size w w' := by
  have h := rchips_any r hr q hq x h0 h1 w
  have e1 : ((rchips_0 r q x : Nat) : Int) = cK r x q := by
    unfold rchips_0 cK dchips_0 rsK rsP rsA
    rw [rvirt_eq]
    have hk := locF_kind (co (synL (w36 r q) (dvirt_0 x false)))
    generalize locF (co (synL (w36 r q) (dvirt_0 x false))) = V at hk ⊢
    exact kinds_eq V hk
  rw [e1, rvirt_eq] at h
  exact h
theorem dK_bd (r : List UInt8) (x : Int) (k : Nat) : 0 ≤ dK r x k ∧ dK r x k ≤ 3 := by
  unfold dK dbits_0
  generalize hsK (numO (w9 r k) 0 8) ((w9 r k).getD 8 0) ((par23 x : Nat) : Int) = v
  cases (((v : Nat) : Int) == 0) <;> cases (((v : Nat) : Int) == 1) <;> cases (((v : Nat) : Int) == 2) <;> decide
theorem cW_len2 {r : List UInt8} (hr : r.length = 72) (x : Int) {k : Nat} (hk : k < 2) : (cW r x k).length = 32 := cW_len (w36_len hr hk)
def jA (r : List UInt8) (x : Int) : Int := jK ((List.range 8).map (dK r x))
def jB (r : List UInt8) (x : Int) : Int := djoin_0 ((List.range 8).map (dK r x))
theorem jAB_bad {r : List UInt8} {x : Int} (h : 1 < jK ((List.range 8).map (dK r x))) : dDec1_0 r x = List.replicate 64 0 ∧ jA r x = jK ((List.range 8).map (dK r x)) ∧ jB r x = 0 := ⟨bad1 (by omega), rfl, dj_bad (by omega)⟩
theorem jAB_ok {r : List UInt8} {x : Int} (h : jK ((List.range 8).map (dK r x)) ≤ 1) : dDec1_0 r x = fillL 64 (fwB (fillG 0 8 (dW r x) 8)) (8 * 8) ∧ jA r x = jK ((List.range 8).map (dK r x)) ∧ jB r x = jF ((List.range 8).map (dK r x)) := ⟨dec1_ok (by omega), rfl, dj_ok (by omega)⟩
def jA2 (r : List UInt8) (x : Int) : Int := jK ((List.range 2).map (cK r x))
def jB2 (r : List UInt8) (x : Int) : Int := djoin_0 ((List.range 2).map (cK r x))
theorem jAB2_bad {r : List UInt8} {x : Int} (h : 1 < jK ((List.range 2).map (cK r x))) : dDec2_0 r x = List.replicate 64 0 ∧ jA2 r x = jK ((List.range 2).map (cK r x)) ∧ jB2 r x = 0 := ⟨bad2' (by omega), rfl, dj_bad (by omega)⟩
theorem jAB2_ok {r : List UInt8} (hr : r.length = 72) {x : Int} (h : jK ((List.range 2).map (cK r x)) ≤ 1) : dDec2_0 r x = fillL 64 (hB r x) (32 * 2) ∧ jA2 r x = jK ((List.range 2).map (cK r x)) ∧ jB2 r x = jF ((List.range 2).map (cK r x)) := ⟨dec2_ok hr (by omega), rfl, dj_ok (by omega)⟩
set_option maxRecDepth 100000 in
set_option maxHeartbeats 1000000 in
theorem rdec1_any (r : List UInt8) (hr : r.length = 72) (x : Int) (h0 : -9223372036854775808 ≤ x) (h1 : x ≤ 9223372036854775807) (w : World) : Calls Try.prog 17 #[.int .i64 1, .agg (rB 72 r).toArray, .int .i64 x] w fun e w' => e = .returned (.tuple #[.agg (rB 64 (dDec1_0 r x)).toArray, .int .i64 (jA r x), .int .i64 (jB r x)]) ∧ Below w.heap.size w w' := by
  have H : Has [] w := has_nil
  have OW : Hid (OwnS [] w [] w) := Lib.hid (OwnS.start H)
  refine (callsIn_wide (n := 6)).1 ?_
  refine callsIn_of_wp_marks Try.func17 rfl trivial ?_ rfl
  simp only [Try.ntmps17, List.size_toArray, List.length_cons, List.length_nil, Nat.reduceAdd, Nat.reduceSub, Array.replicate_succ, Array.replicate_zero, List.push_toArray, List.append_toArray, List.nil_append, List.cons_append]
  gi_upto_region 0 with fail
  refine wpIn_region_re 2 (fun ηq1 => [.bx 0 26 (.agg (rB 72 r).toArray),
      .al 1 22 (rB 64 (List.replicate 64 0)).toArray,
      .pv (.int .i64 0),
      .pv (.int .i64 0)])
    (fun ηq1 L => L ++ [((ηq1 0).blk 0, Obj.cells (rB 72 r).toArray 26 (0, 0)), ((ηq1 1).blk 0, Obj.cells (rB 64 (List.replicate 64 0)).toArray 22 (0, 0))]) (by kernel_rfl) OW (fun _ => by kernel_rfl) ?_
  clear OW; intro ηq1 ysq1 Wq1 OW
  simp only [↓putE_cons, ↓putE_nil, valE, Hint.val, Act.put, List.setIfInBounds_toArray, List.set_cons_succ, List.set_cons_zero]
  gi_upto_region 1 with fail
  refine wpIn_region_re 3 (fun ηq2 => [.al 2 22 (rB 64 (List.replicate 64 0)).toArray])
    (fun ηq2 L => L ++ [((ηq2 0).blk 0, Obj.cells (rB 64 (List.replicate 64 0)).toArray 22 (0, 0))]) (by kernel_rfl) OW (fun _ => by kernel_rfl) ?_
  clear OW; intro ηq2 ysq2 Wq2 OW
  simp only [↓putE_cons, ↓putE_nil, valE, Hint.val, Act.put, List.setIfInBounds_toArray, List.set_cons_succ, List.set_cons_zero]
  gi_upto_region 2 with fail
  refine wpIn_region_re 3 (fun ηq3 => [.pv (.int .i64 0)])
    (fun ηq3 L => L) (by kernel_rfl) OW (fun _ => by kernel_rfl) ?_
  clear OW; intro ηq3 ysq3 Wq3 OW
  simp only [↓putE_cons, ↓putE_nil, valE, Hint.val, Act.put, List.setIfInBounds_toArray, List.set_cons_succ, List.set_cons_zero]
  gi_upto_region 3 with fail
  refine wpIn_region_re 3 (fun ηq4 => [.pv (.int .i64 0)])
    (fun ηq4 L => L) (by kernel_rfl) OW (fun _ => by kernel_rfl) ?_
  clear OW; intro ηq4 ysq4 Wq4 OW
  simp only [↓putE_cons, ↓putE_nil, valE, Hint.val, Act.put, List.setIfInBounds_toArray, List.set_cons_succ, List.set_cons_zero]
  gi_upto_region 4 with fail
  refine wpIn_region_re 4 (fun ηq5 => [.cl 35 #[] (fun E => .agg (rB 74 colsB).toArray) [] [] (fun E => []) (enters_of Try.func35 (by kernel_rfl) rfl) (fun w' H => cB (callsIn_wide.2 (rcols_any w'))),
      .al 3 74 (rB 74 (List.replicate 74 0)).toArray,
      .ss 3 ((ηq5 1).blk 0) 0 74 (rB 74 colsB) (rB 74 colsB).toArray])
    (fun ηq5 L => L ++ [((ηq5 1).blk 0, Obj.cells (rB 74 colsB).toArray 74 (0, 0))]) (by kernel_rfl) OW (fun _ => by kernel_rfl) ?_
  clear OW; intro ηq5 ysq5 Wq5 OW
  simp only [↓putE_cons, ↓putE_nil, valE, Hint.val, Act.put, List.setIfInBounds_toArray, List.set_cons_succ, List.set_cons_zero]
  gi_upto_region 5 with fail
  refine wpIn_region_re 4 (fun ηq6 => [.pv (.int .i64 0)])
    (fun ηq6 L => L) (by kernel_rfl) OW (fun _ => by kernel_rfl) ?_
  clear OW; intro ηq6 ysq6 Wq6 OW
  simp only [↓putE_cons, ↓putE_nil, valE, Hint.val, Act.put, List.setIfInBounds_toArray, List.set_cons_succ, List.set_cons_zero]
  gi_wp2
  gi_loopw [13, 10, 11] (fun z13 z10 z11 wr => ∃ k : Nat, k ≤ 8 ∧ z13 = .int .i64 (k : Int) ∧ z10 = .int .i64 (jK ((List.range k).map (dK r x))) ∧ z11 = .int .i64 (jF ((List.range k).map (dK r x))) ∧ OwnS [] w [((ηq1 0).blk 0, Obj.cells (rB 72 r).toArray 26 (0, 0)), ((ηq1 1).blk 0, Obj.cells (rB 64 (List.replicate 64 0)).toArray 22 (0, 0)), ((ηq2 0).blk 0, Obj.cells (rB 64 (fillL 64 (fwB (fillG 0 8 (dW r x) 8)) (8 * k))).toArray 22 (0, 0)), ((ηq5 1).blk 0, Obj.cells (rB 74 colsB).toArray 74 (0, 0))] wr) (fun z13 z10 z11 _ => 8 - (intOf (z13)).toNat)
  case atStart => exact ⟨0, by omega, rfl, rfl, rfl, (by rw [Nat.mul_zero, fillL_zero]; exact OwnS.cast OW.out (by kernel_rfl))⟩
  case round =>
    obtain ⟨k, hk8, rfl, rfl, rfl, hO⟩ := hrel
    clear OW
    have HJF := jF_rg (dK r x) (n := k) (by omega)
    have HDK := dK_bd r x k
    have HDW := dW_lt r x k
    have OW := Lib.hid hO
    clear hO
    gi_upto_region 6 with fail
    refine wpIn_region_re 4 (fun ηq10 => [.pv (.int .i64 (k : Int)),
        .pv (.bool (decide ((k : Int) < 8))),
        .pv (.bool (decide ((k : Int) < 8))),
        .pv (.int .i64 1),
        .pv (.bool true),
        .pk (.bool ((decide ((k : Int) < 8)) && true))])
      (fun ηq10 L => L) (by kernel_rfl) OW (fun _ => by kernel_rfl) ?_
    clear OW; intro ηq10 ysq10 Wq10 OW
    simp only [↓putE_cons, ↓putE_nil, valE, Hint.val, Act.put, List.setIfInBounds_toArray, List.set_cons_succ, List.set_cons_zero]
    cases hB11 : ((decide ((k : Int) < 8)) && true)
    case true =>
      have hB11 := (Bool.and_true _).symm.trans hB11
      have dhB11 := of_decide_eq_true hB11
      gi_upto_region 8 with fail
      refine wpIn_region_re 4 (fun ηq12 => [.ls (rB 74 colsB) 3 0,
          .ls (rB 72 r) 0 0,
          .pv (.int .i64 (k : Int)),
          .pv (.int .i64 x),
          .cl 42 #[.agg (rB 74 colsB).toArray, .agg (rB 72 r).toArray, .int .i64 (k : Int), .int .i64 x] (fun E => .tuple #[.int .u64 ((dW r x k : Nat) : Int), .int .i64 (dK r x k)]) [] [] (fun E => []) (enters_of Try.func42 (by kernel_rfl) rfl) (fun w' H => cB (callsIn_wide.2 (rbits2_any r (by first | rfl | (simp only [List.length_set, List.length_append, List.length_replicate, List.length_cons, List.length_nil, List.length_map, List.length_range, List.length_take, List.length_drop, fillL_len, colsB_len, hr]; done) | (simp only [List.length_set, List.length_append, List.length_replicate, List.length_cons, List.length_nil, List.length_map, List.length_range, List.length_take, List.length_drop, fillL_len, colsB_len, hr]; omega)) k (by omega) x (by omega) (by omega) w'))),
          .pv (.tuple #[.int .u64 ((dW r x k : Nat) : Int), .int .i64 (dK r x k)]),
          .pv (.int .u64 ((dW r x k : Nat) : Int)),
          .pv (.int .i64 (dK r x k)),
          .pv (.int .u64 ((dW r x k : Nat) : Int)),
          .pv (.int .i64 (dK r x k))])
        (fun ηq12 L => L) (by kernel_rfl) OW (fun _ => by kernel_rfl) ?_
      clear OW; intro ηq12 ysq12 Wq12 OW
      simp only [↓putE_cons, ↓putE_nil, valE, Hint.val, Act.put, List.setIfInBounds_toArray, List.set_cons_succ, List.set_cons_zero]
      gi_upto_region 9 with fail
      refine wpIn_region_re 4 (fun ηq13 => [.pv (.int .i64 0)])
        (fun ηq13 L => L) (by kernel_rfl) OW (fun _ => by kernel_rfl) ?_
      clear OW; intro ηq13 ysq13 Wq13 OW
      simp only [↓putE_cons, ↓putE_nil, valE, Hint.val, Act.put, List.setIfInBounds_toArray, List.set_cons_succ, List.set_cons_zero]
      gi_wp2
      gi_loopw [16, 14] (fun z16 z14 wr => ∃ i : Nat, i ≤ 8 ∧ z16 = .int .i64 (i : Int) ∧ z14 = .int .u64 ((dW r x k / 256 ^ i : Nat) : Int) ∧ OwnS [] w [((ηq1 0).blk 0, Obj.cells (rB 72 r).toArray 26 (0, 0)), ((ηq1 1).blk 0, Obj.cells (rB 64 (List.replicate 64 0)).toArray 22 (0, 0)), ((ηq2 0).blk 0, Obj.cells (rB 64 (fillL 64 (fwB (fillG 0 8 (dW r x) 8)) (8 * k + i))).toArray 22 (0, 0)), ((ηq5 1).blk 0, Obj.cells (rB 74 colsB).toArray 74 (0, 0))] wr) (fun z16 z14 _ => 8 - (intOf (z16)).toNat)
      case atStart => exact ⟨0, by omega, rfl, by rw [Nat.pow_zero, Nat.div_one], (by skip; exact OwnS.cast OW.out (by kernel_rfl))⟩
      case round =>
        obtain ⟨i, hk15, rfl, rfl, hO⟩ := hrel
        clear OW
        have HDI : dW r x k / 256 ^ i < 18446744073709551616 := Nat.lt_of_le_of_lt (Nat.div_le_self _ _) HDW
        have OW := Lib.hid hO
        clear hO
        gi_upto_region 10 with fail
        refine wpIn_region_re 4 (fun ηq17 => [.pv (.int .i64 (i : Int)),
            .pv (.bool (decide ((i : Int) < 8)))])
          (fun ηq17 L => L) (by kernel_rfl) OW (fun _ => by kernel_rfl) ?_
        clear OW; intro ηq17 ysq17 Wq17 OW
        simp only [↓putE_cons, ↓putE_nil, valE, Hint.val, Act.put, List.setIfInBounds_toArray, List.set_cons_succ, List.set_cons_zero]
        cases hB18 : (decide ((i : Int) < 8))
        case true =>
          have dhB18 := of_decide_eq_true hB18
          gi_upto_region 12 with fail
          refine wpIn_region_re 4 (fun ηq19 => [.pv (.int .i64 (k : Int)),
              .tv (.int .i64 ((8 * k : Nat) : Int)) (sBin .mul 3 (.const (.int .i64 8)) (.tmp 42) (.int .i64 8) (.int .i64 (k : Int))) (fun _ => bin_mul_nat (a := 8) (b := k) (by omega)),
              .pv (.int .i64 (i : Int)),
              .tv (.int .i64 (((8 * k) + i : Nat) : Int)) (sBin .add 3 (.tmp 43) (.tmp 44) (.int .i64 ((8 * k : Nat) : Int)) (.int .i64 (i : Int))) (fun _ => bin_add_nat (a := 8 * k) (b := i) (by omega)),
              .pv (.int .u64 ((dW r x k / 256 ^ i : Nat) : Int)),
              .tv (.int .u64 (((dW r x k / 256 ^ i) % 256 : Nat) : Int)) (sBin .rem 54 (.tmp 46) (.const (.int .u64 256)) (.int .u64 ((dW r x k / 256 ^ i : Nat) : Int)) (.int .u64 256)) (fun _ => bin_rem_u64 (a := dW r x k / 256 ^ i) (d := 256) (by decide)),
              .tv (.int .u8 ((UInt8.ofNat ((dW r x k / 256 ^ i) % 256)).toNat : Int)) (convert 54 5 (.int .u64 (((dW r x k / 256 ^ i) % 256 : Nat) : Int))) (fun _ => cvt_u64u8 Try.underlying54 Try.underlying5),
              .tv (.pointer (some ⟨(ηq2 0).blk 0, 0 + ((8 * k) + i) * 1, none⟩)) (Instr.indexAt 22 (.pointer (some ⟨(ηq2 0).blk 0, 0, none⟩)) (.int .i64 (((8 * k) + i : Nat) : Int))) (fun _ => idx_ar (N := 64) (k := (8 * k) + i) (by kernel_rfl) (by omega)),
              .sw 2 ((ηq2 0).blk 0) (0 + ((8 * k) + i) * 1) 22 (.int .u8 ((UInt8.ofNat ((dW r x k / 256 ^ i) % 256)).toNat : Int)) (rB 64 (fillL 64 (fwB (fillG 0 8 (dW r x) 8)) (8 * k + i))).toArray (rB 64 ((fillL 64 (fwB (fillG 0 8 (dW r x) 8)) (8 * k + i)).set ((8 * k) + i) (UInt8.ofNat ((dW r x k / 256 ^ i) % 256)))).toArray (by rw [Nat.zero_add, Nat.mul_one]; exact rB_set (show (fillL 64 (fwB (fillG 0 8 (dW r x) 8)) (8 * k + i)).length = 64 by first | rfl | (simp only [List.length_set, List.length_append, List.length_replicate, List.length_cons, List.length_nil, List.length_map, List.length_range, List.length_take, List.length_drop, fillL_len, colsB_len, hr]; done) | (simp only [List.length_set, List.length_append, List.length_replicate, List.length_cons, List.length_nil, List.length_map, List.length_range, List.length_take, List.length_drop, fillL_len, colsB_len, hr]; omega))) (by rw [Nat.zero_add, Nat.mul_one]; exact rL_lt (by omega))])
            (fun ηq19 L => L.set 2 ((ηq2 0).blk 0, Obj.cells (rB 64 ((fillL 64 (fwB (fillG 0 8 (dW r x) 8)) (8 * k + i)).set ((8 * k) + i) (UInt8.ofNat ((dW r x k / 256 ^ i) % 256)))).toArray 22 (0, 0))) (by kernel_rfl) OW (fun _ => by kernel_rfl) ?_
          clear OW; intro ηq19 ysq19 Wq19 OW
          simp only [↓putE_cons, ↓putE_nil, valE, Hint.val, Act.put, List.setIfInBounds_toArray, List.set_cons_succ, List.set_cons_zero]
          gi_upto_region 13 with fail
          refine wpIn_region_re 4 (fun ηq20 => [.pv (.int .u64 ((dW r x k / 256 ^ i : Nat) : Int)),
              .tv (.int .u64 (((dW r x k / 256 ^ i) / 256 : Nat) : Int)) (sBin .quo 54 (.tmp 50) (.const (.int .u64 256)) (.int .u64 ((dW r x k / 256 ^ i : Nat) : Int)) (.int .u64 256)) (fun _ => bin_quo_u64 (a := dW r x k / 256 ^ i) (d := 256) (by decide) (by omega)),
              .pv (.int .u64 (((dW r x k / 256 ^ i) / 256 : Nat) : Int))])
            (fun ηq20 L => L) (by kernel_rfl) OW (fun _ => by kernel_rfl) ?_
          clear OW; intro ηq20 ysq20 Wq20 OW
          simp only [↓putE_cons, ↓putE_nil, valE, Hint.val, Act.put, List.setIfInBounds_toArray, List.set_cons_succ, List.set_cons_zero]
          gi_upto_region 11 with fail
          refine wpIn_region_re 4 (fun ηq21 => [.pv (.int .i64 (i : Int)),
              .tv (.int .i64 ((i + 1 : Nat) : Int)) (sBin .add 3 (.tmp 40) (.const (.int .i64 1)) (.int .i64 (i : Int)) (.int .i64 1)) (fun _ => bin_add_nat (a := i) (b := 1) (by omega)),
              .pv (.int .i64 ((i + 1 : Nat) : Int))])
            (fun ηq21 L => L) (by kernel_rfl) OW (fun _ => by kernel_rfl) ?_
          clear OW; intro ηq21 ysq21 Wq21 OW
          simp only [↓putE_cons, ↓putE_nil, valE, Hint.val, Act.put, List.setIfInBounds_toArray, List.set_cons_succ, List.set_cons_zero]
          gi_wp2
          go_roundw
          case rel => exact ⟨i + 1, by omega, by go_num, by rw [dq_succ], (by rw [show 8 * k + (i + 1) = (8 * k + i) + 1 from rfl, ← fillL_set (show 8 * k + i < 64 by omega), fwB_dW (by omega) (by omega)]; exact OwnS.cast OW.out (by kernel_rfl))⟩
          case measure => (simp [intOf] <;> omega)
        have dhB18 := of_decide_eq_false hB18
        obtain rfl : i = 8 := by omega
        gi_upto_region 14 with fail
        refine wpIn_region_re 4 (fun ηq22 => [.pv (.int .i64 (dK r x k)),
            .pv (.int .i64 (jK ((List.range k).map (dK r x)))),
            .pv (.bool (decide ((jK ((List.range k).map (dK r x))) < (dK r x k))))])
          (fun ηq22 L => L) (by kernel_rfl) OW (fun _ => by kernel_rfl) ?_
        clear OW; intro ηq22 ysq22 Wq22 OW
        simp only [↓putE_cons, ↓putE_nil, valE, Hint.val, Act.put, List.setIfInBounds_toArray, List.set_cons_succ, List.set_cons_zero]
        cases hB23 : (decide ((jK ((List.range k).map (dK r x))) < (dK r x k)))
        case true =>
          have dhB23 := of_decide_eq_true hB23
          gi_upto_region 15 with fail
          refine wpIn_region_re 4 (fun ηq24 => [.pv (.int .i64 (dK r x k)),
              .pv (.int .i64 (dK r x k))])
            (fun ηq24 L => L) (by kernel_rfl) OW (fun _ => by kernel_rfl) ?_
          clear OW; intro ηq24 ysq24 Wq24 OW
          simp only [↓putE_cons, ↓putE_nil, valE, Hint.val, Act.put, List.setIfInBounds_toArray, List.set_cons_succ, List.set_cons_zero]
          gi_upto_region 16 with fail
          refine wpIn_region_re 4 (fun ηq25 => [.pv (.int .i64 (dK r x k)),
              .pv (.bool ((dK r x k) == 1))])
            (fun ηq25 L => L) (by kernel_rfl) OW (fun _ => by kernel_rfl) ?_
          clear OW; intro ηq25 ysq25 Wq25 OW
          simp only [↓putE_cons, ↓putE_nil, valE, Hint.val, Act.put, List.setIfInBounds_toArray, List.set_cons_succ, List.set_cons_zero]
          cases hB26 : ((dK r x k) == 1)
          case true =>
            have dhB26 := Lib.hid (eq_of_beq hB26)
            gi_upto_region 17 with fail
            refine wpIn_region_re 4 (fun ηq27 => [.pv (.int .i64 (jF ((List.range k).map (dK r x)))),
                .tv (.int .i64 ((jF ((List.range k).map (dK r x))) + 1)) (sBin .add 3 (.tmp 58) (.const (.int .i64 1)) (.int .i64 (jF ((List.range k).map (dK r x)))) (.int .i64 1)) (fun _ => bin_add_in (a := (jF ((List.range k).map (dK r x)))) (b := 1) (by omega) (by omega)),
                .pv (.int .i64 ((jF ((List.range k).map (dK r x))) + 1))])
              (fun ηq27 L => L) (by kernel_rfl) OW (fun _ => by kernel_rfl) ?_
            clear OW; intro ηq27 ysq27 Wq27 OW
            simp only [↓putE_cons, ↓putE_nil, valE, Hint.val, Act.put, List.setIfInBounds_toArray, List.set_cons_succ, List.set_cons_zero]
            gi_upto_region 7 with fail
            refine wpIn_region_re 4 (fun ηq28 => [.pv (.int .i64 (k : Int)),
                .tv (.int .i64 ((k + 1 : Nat) : Int)) (sBin .add 3 (.tmp 28) (.const (.int .i64 1)) (.int .i64 (k : Int)) (.int .i64 1)) (fun _ => bin_add_nat (a := k) (b := 1) (by omega)),
                .pv (.int .i64 ((k + 1 : Nat) : Int))])
              (fun ηq28 L => L) (by kernel_rfl) OW (fun _ => by kernel_rfl) ?_
            clear OW; intro ηq28 ysq28 Wq28 OW
            simp only [↓putE_cons, ↓putE_nil, valE, Hint.val, Act.put, List.setIfInBounds_toArray, List.set_cons_succ, List.set_cons_zero]
            gi_wp2
            go_roundw
            case rel => exact ⟨k + 1, by omega, by go_num, by rw [jK_rs]; exact congrArg (Value.int .i64) (by omega), congrArg (Value.int .i64) (by first | exact jF_st1 (by assumption) | exact jF_st0 (by assumption)), (by rw [show 8 * (k + 1) = 8 * k + 8 from rfl]; exact OwnS.cast OW.out (by kernel_rfl))⟩
            case measure => (simp [intOf] <;> omega)
          have dhB26 := ne_of_beq_false hB26
          gi_upto_region 7 with fail
          refine wpIn_region_re 4 (fun ηq29 => [.pv (.int .i64 (k : Int)),
              .tv (.int .i64 ((k + 1 : Nat) : Int)) (sBin .add 3 (.tmp 28) (.const (.int .i64 1)) (.int .i64 (k : Int)) (.int .i64 1)) (fun _ => bin_add_nat (a := k) (b := 1) (by omega)),
              .pv (.int .i64 ((k + 1 : Nat) : Int))])
            (fun ηq29 L => L) (by kernel_rfl) OW (fun _ => by kernel_rfl) ?_
          clear OW; intro ηq29 ysq29 Wq29 OW
          simp only [↓putE_cons, ↓putE_nil, valE, Hint.val, Act.put, List.setIfInBounds_toArray, List.set_cons_succ, List.set_cons_zero]
          gi_wp2
          go_roundw
          case rel => exact ⟨k + 1, by omega, by go_num, by rw [jK_rs]; exact congrArg (Value.int .i64) (by omega), congrArg (Value.int .i64) (by first | exact jF_st1 (by assumption) | exact jF_st0 (by assumption)), (by rw [show 8 * (k + 1) = 8 * k + 8 from rfl]; exact OwnS.cast OW.out (by kernel_rfl))⟩
          case measure => (simp [intOf] <;> omega)
        have dhB23 := of_decide_eq_false hB23
        gi_upto_region 16 with fail
        refine wpIn_region_re 4 (fun ηq30 => [.pv (.int .i64 (dK r x k)),
            .pv (.bool ((dK r x k) == 1))])
          (fun ηq30 L => L) (by kernel_rfl) OW (fun _ => by kernel_rfl) ?_
        clear OW; intro ηq30 ysq30 Wq30 OW
        simp only [↓putE_cons, ↓putE_nil, valE, Hint.val, Act.put, List.setIfInBounds_toArray, List.set_cons_succ, List.set_cons_zero]
        cases hB31 : ((dK r x k) == 1)
        case true =>
          have dhB31 := Lib.hid (eq_of_beq hB31)
          gi_upto_region 17 with fail
          refine wpIn_region_re 4 (fun ηq32 => [.pv (.int .i64 (jF ((List.range k).map (dK r x)))),
              .tv (.int .i64 ((jF ((List.range k).map (dK r x))) + 1)) (sBin .add 3 (.tmp 58) (.const (.int .i64 1)) (.int .i64 (jF ((List.range k).map (dK r x)))) (.int .i64 1)) (fun _ => bin_add_in (a := (jF ((List.range k).map (dK r x)))) (b := 1) (by omega) (by omega)),
              .pv (.int .i64 ((jF ((List.range k).map (dK r x))) + 1))])
            (fun ηq32 L => L) (by kernel_rfl) OW (fun _ => by kernel_rfl) ?_
          clear OW; intro ηq32 ysq32 Wq32 OW
          simp only [↓putE_cons, ↓putE_nil, valE, Hint.val, Act.put, List.setIfInBounds_toArray, List.set_cons_succ, List.set_cons_zero]
          gi_upto_region 7 with fail
          refine wpIn_region_re 4 (fun ηq33 => [.pv (.int .i64 (k : Int)),
              .tv (.int .i64 ((k + 1 : Nat) : Int)) (sBin .add 3 (.tmp 28) (.const (.int .i64 1)) (.int .i64 (k : Int)) (.int .i64 1)) (fun _ => bin_add_nat (a := k) (b := 1) (by omega)),
              .pv (.int .i64 ((k + 1 : Nat) : Int))])
            (fun ηq33 L => L) (by kernel_rfl) OW (fun _ => by kernel_rfl) ?_
          clear OW; intro ηq33 ysq33 Wq33 OW
          simp only [↓putE_cons, ↓putE_nil, valE, Hint.val, Act.put, List.setIfInBounds_toArray, List.set_cons_succ, List.set_cons_zero]
          gi_wp2
          go_roundw
          case rel => exact ⟨k + 1, by omega, by go_num, by rw [jK_rs]; exact congrArg (Value.int .i64) (by omega), congrArg (Value.int .i64) (by first | exact jF_st1 (by assumption) | exact jF_st0 (by assumption)), (by rw [show 8 * (k + 1) = 8 * k + 8 from rfl]; exact OwnS.cast OW.out (by kernel_rfl))⟩
          case measure => (simp [intOf] <;> omega)
        have dhB31 := ne_of_beq_false hB31
        gi_upto_region 7 with fail
        refine wpIn_region_re 4 (fun ηq34 => [.pv (.int .i64 (k : Int)),
            .tv (.int .i64 ((k + 1 : Nat) : Int)) (sBin .add 3 (.tmp 28) (.const (.int .i64 1)) (.int .i64 (k : Int)) (.int .i64 1)) (fun _ => bin_add_nat (a := k) (b := 1) (by omega)),
            .pv (.int .i64 ((k + 1 : Nat) : Int))])
          (fun ηq34 L => L) (by kernel_rfl) OW (fun _ => by kernel_rfl) ?_
        clear OW; intro ηq34 ysq34 Wq34 OW
        simp only [↓putE_cons, ↓putE_nil, valE, Hint.val, Act.put, List.setIfInBounds_toArray, List.set_cons_succ, List.set_cons_zero]
        gi_wp2
        go_roundw
        case rel => exact ⟨k + 1, by omega, by go_num, by rw [jK_rs]; exact congrArg (Value.int .i64) (by omega), congrArg (Value.int .i64) (by first | exact jF_st1 (by assumption) | exact jF_st0 (by assumption)), (by rw [show 8 * (k + 1) = 8 * k + 8 from rfl]; exact OwnS.cast OW.out (by kernel_rfl))⟩
        case measure => (simp [intOf] <;> omega)
    have hB11 := (Bool.and_true _).symm.trans hB11
    have dhB11 := of_decide_eq_false hB11
    obtain rfl : k = 8 := by omega
    gi_upto_region 18 with fail
    refine wpIn_region_re 4 (fun ηq35 => [.pv (.int .i64 0)])
      (fun ηq35 L => L) (by kernel_rfl) OW (fun _ => by kernel_rfl) ?_
    clear OW; intro ηq35 ysq35 Wq35 OW
    simp only [↓putE_cons, ↓putE_nil, valE, Hint.val, Act.put, List.setIfInBounds_toArray, List.set_cons_succ, List.set_cons_zero]
    gi_wp2
    gi_loopw [17, 10, 11] (fun z17 z10 z11 wr => ∃ j : Nat, j ≤ 2 ∧ z17 = .int .i64 (j : Int) ∧ z10 = .int .i64 (jK ((List.range 8).map (dK r x))) ∧ z11 = .int .i64 (jF ((List.range 8).map (dK r x))) ∧ OwnS [] w [((ηq1 0).blk 0, Obj.cells (rB 72 r).toArray 26 (0, 0)), ((ηq1 1).blk 0, Obj.cells (rB 64 (List.replicate 64 0)).toArray 22 (0, 0)), ((ηq2 0).blk 0, Obj.cells (rB 64 (fillL 64 (fwB (fillG 0 8 (dW r x) 8)) (8 * 8))).toArray 22 (0, 0)), ((ηq5 1).blk 0, Obj.cells (rB 74 colsB).toArray 74 (0, 0))] wr) (fun z17 z10 z11 _ => 2 - (intOf (z17)).toNat)
    case atStart => exact ⟨0, by omega, rfl, rfl, rfl, (by skip; exact OwnS.cast OW.out (by kernel_rfl))⟩
    case round =>
      obtain ⟨j, hk37, rfl, rfl, rfl, hO⟩ := hrel
      clear OW
      have OW := Lib.hid hO
      clear hO
      gi_upto_region 19 with fail
      refine wpIn_region_re 4 (fun ηq39 => [.pv (.int .i64 (j : Int)),
          .pv (.bool (decide ((j : Int) < 2))),
          .pv (.bool (decide ((j : Int) < 2))),
          .pv (.int .i64 1),
          .pv (.bool false),
          .pk (.bool ((decide ((j : Int) < 2)) && false))])
        (fun ηq39 L => L) (by kernel_rfl) OW (fun _ => by kernel_rfl) ?_
      clear OW; intro ηq39 ysq39 Wq39 OW
      simp only [↓putE_cons, ↓putE_nil, valE, Hint.val, Act.put, List.setIfInBounds_toArray, List.set_cons_succ, List.set_cons_zero]
      cases hB40 : ((decide ((j : Int) < 2)) && false)
      case true => exact absurd (hB40.symm.trans (show _ = false from Bool.and_false _)) (by decide)
      case false =>
        gi_upto_region 30 with fail
        refine wpIn_region_re 4 (fun ηq41 => [.pv (.int .i64 (jK ((List.range 8).map (dK r x)))),
            .pv (.bool (decide (1 < (jK ((List.range 8).map (dK r x))))))])
          (fun ηq41 L => L) (by kernel_rfl) OW (fun _ => by kernel_rfl) ?_
        clear OW; intro ηq41 ysq41 Wq41 OW
        simp only [↓putE_cons, ↓putE_nil, valE, Hint.val, Act.put, List.setIfInBounds_toArray, List.set_cons_succ, List.set_cons_zero]
        cases hB42 : (decide (1 < (jK ((List.range 8).map (dK r x)))))
        case true =>
          have dhB42 := of_decide_eq_true hB42
          gi_upto_region 31 with fail
          refine wpIn_region_re 4 (fun ηq43 => [.pv (.agg (rB 64 (List.replicate 64 0)).toArray),
              .pv (.int .i64 (jK ((List.range 8).map (dK r x)))),
              .ss 1 ((ηq1 1).blk 0) 0 22 (rB 64 (List.replicate 64 0)) (rB 64 (List.replicate 64 0)).toArray,
              .pv (.int .i64 (jK ((List.range 8).map (dK r x)))),
              .pv (.int .i64 0)])
            (fun ηq43 L => L) (by kernel_rfl) OW (fun _ => by kernel_rfl) ?_
          clear OW; intro ηq43 ysq43 Wq43 OW
          simp only [↓putE_cons, ↓putE_nil, valE, Hint.val, Act.put, List.setIfInBounds_toArray, List.set_cons_succ, List.set_cons_zero]
          gi_wp2
          exact leavesS OW [.s (rB 64 (List.replicate 64 0)) 1, .t (.int .i64 (jK ((List.range 8).map (dK r x)))), .t (.int .i64 0)] (by kernel_rfl) fun hO => ⟨(by first | (rw [(jAB_bad (by assumption)).1, (jAB_bad (by assumption)).2.1, (jAB_bad (by assumption)).2.2]; rfl) | (rw [(jAB_ok (by assumption)).1, (jAB_ok (by assumption)).2.1, (jAB_ok (by assumption)).2.2]; rfl)), hO.done⟩
        have dhB42 := of_decide_eq_false hB42
        gi_upto_region 32 with fail
        refine wpIn_region_re 4 (fun ηq44 => [.ls (rB 64 (fillL 64 (fwB (fillG 0 8 (dW r x) 8)) (8 * 8))) 2 0,
            .pv (.int .i64 (jK ((List.range 8).map (dK r x)))),
            .pv (.int .i64 (jF ((List.range 8).map (dK r x)))),
            .ss 1 ((ηq1 1).blk 0) 0 22 (rB 64 (fillL 64 (fwB (fillG 0 8 (dW r x) 8)) (8 * 8))) (rB 64 (fillL 64 (fwB (fillG 0 8 (dW r x) 8)) (8 * 8))).toArray,
            .pv (.int .i64 (jK ((List.range 8).map (dK r x)))),
            .pv (.int .i64 (jF ((List.range 8).map (dK r x))))])
          (fun ηq44 L => L.set 1 ((ηq1 1).blk 0, Obj.cells (rB 64 (fillL 64 (fwB (fillG 0 8 (dW r x) 8)) (8 * 8))).toArray 22 (0, 0))) (by kernel_rfl) OW (fun _ => by kernel_rfl) ?_
        clear OW; intro ηq44 ysq44 Wq44 OW
        simp only [↓putE_cons, ↓putE_nil, valE, Hint.val, Act.put, List.setIfInBounds_toArray, List.set_cons_succ, List.set_cons_zero]
        gi_wp2
        exact leavesS OW [.s (rB 64 (fillL 64 (fwB (fillG 0 8 (dW r x) 8)) (8 * 8))) 1, .t (.int .i64 (jK ((List.range 8).map (dK r x)))), .t (.int .i64 (jF ((List.range 8).map (dK r x))))] (by kernel_rfl) fun hO => ⟨(by first | (rw [(jAB_bad (by assumption)).1, (jAB_bad (by assumption)).2.1, (jAB_bad (by assumption)).2.2]; rfl) | (rw [(jAB_ok (by assumption)).1, (jAB_ok (by assumption)).2.1, (jAB_ok (by assumption)).2.2]; rfl)), hO.done⟩
theorem cK_bd (r : List UInt8) (x : Int) (k : Nat) : 0 ≤ cK r x k ∧ cK r x k ≤ 3 := by
  unfold cK dchips_0
  cases (((rsK (w36 r k) (dvirt_0 x false) : Nat) : Int) == 0) <;> cases (((rsK (w36 r k) (dvirt_0 x false) : Nat) : Int) == 1) <;> cases ((((rsK (w36 r k) (dvirt_0 x false) : Nat) : Int) == 2) && ((rsP (w36 r k) (dvirt_0 x false)) == 38)) && (((rsA (w36 r k) (dvirt_0 x false)).toNat : Int) == 128) <;> decide
set_option maxRecDepth 100000 in
set_option maxHeartbeats 1000000 in
theorem rdec2_any (r : List UInt8) (hr : r.length = 72) (x : Int) (h0 : -9223372036854775808 ≤ x) (h1 : x ≤ 9223372036854775807) (w : World) : Calls Try.prog 17 #[.int .i64 2, .agg (rB 72 r).toArray, .int .i64 x] w fun e w' => e = .returned (.tuple #[.agg (rB 64 (dDec2_0 r x)).toArray, .int .i64 (jA2 r x), .int .i64 (jB2 r x)]) ∧ Below w.heap.size w w' := by
  have HCW := True.intro
  have H : Has [] w := has_nil
  have OW : Hid (OwnS [] w [] w) := Lib.hid (OwnS.start H)
  refine (callsIn_wide (n := 6)).1 ?_
  refine callsIn_of_wp_marks Try.func17 rfl trivial ?_ rfl
  simp only [Try.ntmps17, List.size_toArray, List.length_cons, List.length_nil, Nat.reduceAdd, Nat.reduceSub, Array.replicate_succ, Array.replicate_zero, List.push_toArray, List.append_toArray, List.nil_append, List.cons_append]
  gi_upto_region 0 with fail
  refine wpIn_region_re 2 (fun ηq1 => [.bx 0 26 (.agg (rB 72 r).toArray),
      .al 1 22 (rB 64 (List.replicate 64 0)).toArray,
      .pv (.int .i64 0),
      .pv (.int .i64 0)])
    (fun ηq1 L => L ++ [((ηq1 0).blk 0, Obj.cells (rB 72 r).toArray 26 (0, 0)), ((ηq1 1).blk 0, Obj.cells (rB 64 (List.replicate 64 0)).toArray 22 (0, 0))]) (by kernel_rfl) OW (fun _ => by kernel_rfl) ?_
  clear OW; intro ηq1 ysq1 Wq1 OW
  simp only [↓putE_cons, ↓putE_nil, valE, Hint.val, Act.put, List.setIfInBounds_toArray, List.set_cons_succ, List.set_cons_zero]
  gi_upto_region 1 with fail
  refine wpIn_region_re 3 (fun ηq2 => [.al 2 22 (rB 64 (List.replicate 64 0)).toArray])
    (fun ηq2 L => L ++ [((ηq2 0).blk 0, Obj.cells (rB 64 (List.replicate 64 0)).toArray 22 (0, 0))]) (by kernel_rfl) OW (fun _ => by kernel_rfl) ?_
  clear OW; intro ηq2 ysq2 Wq2 OW
  simp only [↓putE_cons, ↓putE_nil, valE, Hint.val, Act.put, List.setIfInBounds_toArray, List.set_cons_succ, List.set_cons_zero]
  gi_upto_region 2 with fail
  refine wpIn_region_re 3 (fun ηq3 => [.pv (.int .i64 0)])
    (fun ηq3 L => L) (by kernel_rfl) OW (fun _ => by kernel_rfl) ?_
  clear OW; intro ηq3 ysq3 Wq3 OW
  simp only [↓putE_cons, ↓putE_nil, valE, Hint.val, Act.put, List.setIfInBounds_toArray, List.set_cons_succ, List.set_cons_zero]
  gi_upto_region 3 with fail
  refine wpIn_region_re 3 (fun ηq4 => [.pv (.int .i64 0)])
    (fun ηq4 L => L) (by kernel_rfl) OW (fun _ => by kernel_rfl) ?_
  clear OW; intro ηq4 ysq4 Wq4 OW
  simp only [↓putE_cons, ↓putE_nil, valE, Hint.val, Act.put, List.setIfInBounds_toArray, List.set_cons_succ, List.set_cons_zero]
  gi_upto_region 4 with fail
  refine wpIn_region_re 4 (fun ηq5 => [.cl 35 #[] (fun E => .agg (rB 74 colsB).toArray) [] [] (fun E => []) (enters_of Try.func35 (by kernel_rfl) rfl) (fun w' H => cB (callsIn_wide.2 (rcols_any w'))),
      .al 3 74 (rB 74 (List.replicate 74 0)).toArray,
      .ss 3 ((ηq5 1).blk 0) 0 74 (rB 74 colsB) (rB 74 colsB).toArray])
    (fun ηq5 L => L ++ [((ηq5 1).blk 0, Obj.cells (rB 74 colsB).toArray 74 (0, 0))]) (by kernel_rfl) OW (fun _ => by kernel_rfl) ?_
  clear OW; intro ηq5 ysq5 Wq5 OW
  simp only [↓putE_cons, ↓putE_nil, valE, Hint.val, Act.put, List.setIfInBounds_toArray, List.set_cons_succ, List.set_cons_zero]
  gi_upto_region 5 with fail
  refine wpIn_region_re 4 (fun ηq6 => [.pv (.int .i64 0)])
    (fun ηq6 L => L) (by kernel_rfl) OW (fun _ => by kernel_rfl) ?_
  clear OW; intro ηq6 ysq6 Wq6 OW
  simp only [↓putE_cons, ↓putE_nil, valE, Hint.val, Act.put, List.setIfInBounds_toArray, List.set_cons_succ, List.set_cons_zero]
  gi_wp2
  gi_loopw [13, 10, 11] (fun z13 z10 z11 wr => ∃ k : Nat, k ≤ 8 ∧ z13 = .int .i64 (k : Int) ∧ z10 = .int .i64 0 ∧ z11 = .int .i64 0 ∧ OwnS [] w [((ηq1 0).blk 0, Obj.cells (rB 72 r).toArray 26 (0, 0)), ((ηq1 1).blk 0, Obj.cells (rB 64 (List.replicate 64 0)).toArray 22 (0, 0)), ((ηq2 0).blk 0, Obj.cells (rB 64 (List.replicate 64 0)).toArray 22 (0, 0)), ((ηq5 1).blk 0, Obj.cells (rB 74 colsB).toArray 74 (0, 0))] wr) (fun z13 z10 z11 _ => 8 - (intOf (z13)).toNat)
  case atStart => exact ⟨0, by omega, rfl, rfl, rfl, (by skip; exact OwnS.cast OW.out (by kernel_rfl))⟩
  case round =>
    obtain ⟨k, hk8, rfl, rfl, rfl, hO⟩ := hrel
    clear OW
    have OW := Lib.hid hO
    clear hO
    gi_upto_region 6 with fail
    refine wpIn_region_re 4 (fun ηq10 => [.pv (.int .i64 (k : Int)),
        .pv (.bool (decide ((k : Int) < 8))),
        .pv (.bool (decide ((k : Int) < 8))),
        .pv (.int .i64 2),
        .pv (.bool false),
        .pk (.bool ((decide ((k : Int) < 8)) && false))])
      (fun ηq10 L => L) (by kernel_rfl) OW (fun _ => by kernel_rfl) ?_
    clear OW; intro ηq10 ysq10 Wq10 OW
    simp only [↓putE_cons, ↓putE_nil, valE, Hint.val, Act.put, List.setIfInBounds_toArray, List.set_cons_succ, List.set_cons_zero]
    cases hB11 : ((decide ((k : Int) < 8)) && false)
    case true => exact absurd (hB11.symm.trans (show _ = false from Bool.and_false _)) (by decide)
    case false =>
      gi_upto_region 18 with fail
      refine wpIn_region_re 4 (fun ηq12 => [.pv (.int .i64 0)])
        (fun ηq12 L => L) (by kernel_rfl) OW (fun _ => by kernel_rfl) ?_
      clear OW; intro ηq12 ysq12 Wq12 OW
      simp only [↓putE_cons, ↓putE_nil, valE, Hint.val, Act.put, List.setIfInBounds_toArray, List.set_cons_succ, List.set_cons_zero]
      gi_wp2
      gi_loopw [17, 10, 11] (fun z17 z10 z11 wr => ∃ j : Nat, j ≤ 2 ∧ z17 = .int .i64 (j : Int) ∧ z10 = .int .i64 (jK ((List.range j).map (cK r x))) ∧ z11 = .int .i64 (jF ((List.range j).map (cK r x))) ∧ OwnS [] w [((ηq1 0).blk 0, Obj.cells (rB 72 r).toArray 26 (0, 0)), ((ηq1 1).blk 0, Obj.cells (rB 64 (List.replicate 64 0)).toArray 22 (0, 0)), ((ηq2 0).blk 0, Obj.cells (rB 64 (fillL 64 (hB r x) (32 * j))).toArray 22 (0, 0)), ((ηq5 1).blk 0, Obj.cells (rB 74 colsB).toArray 74 (0, 0))] wr) (fun z17 z10 z11 _ => 2 - (intOf (z17)).toNat)
      case atStart => exact ⟨0, by omega, rfl, rfl, rfl, (by rw [Nat.mul_zero, fillL_zero]; exact OwnS.cast OW.out (by kernel_rfl))⟩
      case round =>
        obtain ⟨j, hk14, rfl, rfl, rfl, hO⟩ := hrel
        clear OW
        have HJF := jF_rg (cK r x) (n := j) (by omega)
        have HCK := cK_bd r x j
        have HCW := fun (h : j < 2) => cW_len2 hr x h
        have OW := Lib.hid hO
        clear hO
        gi_upto_region 19 with fail
        refine wpIn_region_re 4 (fun ηq16 => [.pv (.int .i64 (j : Int)),
            .pv (.bool (decide ((j : Int) < 2))),
            .pv (.bool (decide ((j : Int) < 2))),
            .pv (.int .i64 2),
            .pv (.bool true),
            .pk (.bool ((decide ((j : Int) < 2)) && true))])
          (fun ηq16 L => L) (by kernel_rfl) OW (fun _ => by kernel_rfl) ?_
        clear OW; intro ηq16 ysq16 Wq16 OW
        simp only [↓putE_cons, ↓putE_nil, valE, Hint.val, Act.put, List.setIfInBounds_toArray, List.set_cons_succ, List.set_cons_zero]
        cases hB17 : ((decide ((j : Int) < 2)) && true)
        case true =>
          have hB17 := (Bool.and_true _).symm.trans hB17
          have dhB17 := of_decide_eq_true hB17
          gi_upto_region 21 with fail
          have HCW := HCW (by omega)
          refine wpIn_region_re 5 (fun ηq18 => [.ls (rB 72 r) 0 0,
              .pv (.int .i64 (j : Int)),
              .pv (.int .i64 x),
              .cl 43 #[.agg (rB 72 r).toArray, .int .i64 (j : Int), .int .i64 x] (fun E => .tuple #[.agg (rB 32 (cW r x j)).toArray, .int .i64 (cK r x j)]) [] [] (fun E => []) (enters_of Try.func43 (by kernel_rfl) rfl) (fun w' H => cB (callsIn_wide.2 (rchips2_any r (by first | rfl | (simp only [List.length_set, List.length_append, List.length_replicate, List.length_cons, List.length_nil, List.length_map, List.length_range, List.length_take, List.length_drop, fillL_len, colsB_len, HCW, hr]; done) | (simp only [List.length_set, List.length_append, List.length_replicate, List.length_cons, List.length_nil, List.length_map, List.length_range, List.length_take, List.length_drop, fillL_len, colsB_len, HCW, hr]; omega)) j (by omega) x (by omega) (by omega) w'))),
              .pv (.tuple #[.agg (rB 32 (cW r x j)).toArray, .int .i64 (cK r x j)]),
              .pv (.agg (rB 32 (cW r x j)).toArray),
              .pv (.int .i64 (cK r x j)),
              .al 4 67 (rB 32 (List.replicate 32 0)).toArray,
              .ss 4 ((ηq18 7).blk 0) 0 67 (rB 32 (cW r x j)) (rB 32 (cW r x j)).toArray,
              .pv (.int .i64 (cK r x j))])
            (fun ηq18 L => L ++ [((ηq18 7).blk 0, Obj.cells (rB 32 (cW r x j)).toArray 67 (0, 0))]) (by kernel_rfl) OW (fun _ => by kernel_rfl) ?_
          clear OW; intro ηq18 ysq18 Wq18 OW
          simp only [↓putE_cons, ↓putE_nil, valE, Hint.val, Act.put, List.setIfInBounds_toArray, List.set_cons_succ, List.set_cons_zero]
          gi_upto_region 22 with fail
          refine wpIn_region_re 5 (fun ηq19 => [.pv (.int .i64 0)])
            (fun ηq19 L => L) (by kernel_rfl) OW (fun _ => by kernel_rfl) ?_
          clear OW; intro ηq19 ysq19 Wq19 OW
          simp only [↓putE_cons, ↓putE_nil, valE, Hint.val, Act.put, List.setIfInBounds_toArray, List.set_cons_succ, List.set_cons_zero]
          gi_wp2
          gi_loopw [20] (fun z20 wr => ∃ i : Nat, i ≤ 32 ∧ z20 = .int .i64 (i : Int) ∧ OwnS [] w [((ηq1 0).blk 0, Obj.cells (rB 72 r).toArray 26 (0, 0)), ((ηq1 1).blk 0, Obj.cells (rB 64 (List.replicate 64 0)).toArray 22 (0, 0)), ((ηq2 0).blk 0, Obj.cells (rB 64 (fillL 64 (hB r x) (32 * j + i))).toArray 22 (0, 0)), ((ηq5 1).blk 0, Obj.cells (rB 74 colsB).toArray 74 (0, 0)), ((ηq18 7).blk 0, Obj.cells (rB 32 (cW r x j)).toArray 67 (0, 0))] wr) (fun z20 _ => 32 - (intOf (z20)).toNat)
          case atStart => exact ⟨0, by omega, rfl, (by skip; exact OwnS.cast OW.out (by kernel_rfl))⟩
          case round =>
            obtain ⟨i, hk21, rfl, hO⟩ := hrel
            clear OW
            have OW := Lib.hid hO
            clear hO
            gi_upto_region 23 with fail
            refine wpIn_region_re 5 (fun ηq23 => [.pv (.int .i64 (i : Int)),
                .pv (.bool (decide ((i : Int) < 32)))])
              (fun ηq23 L => L) (by kernel_rfl) OW (fun _ => by kernel_rfl) ?_
            clear OW; intro ηq23 ysq23 Wq23 OW
            simp only [↓putE_cons, ↓putE_nil, valE, Hint.val, Act.put, List.setIfInBounds_toArray, List.set_cons_succ, List.set_cons_zero]
            cases hB24 : (decide ((i : Int) < 32))
            case true =>
              have dhB24 := of_decide_eq_true hB24
              gi_upto_region 25 with fail
              refine wpIn_region_re 5 (fun ηq25 => [.pv (.int .i64 (j : Int)),
                  .tv (.int .i64 ((32 * j : Nat) : Int)) (sBin .mul 3 (.const (.int .i64 32)) (.tmp 79) (.int .i64 32) (.int .i64 (j : Int))) (fun _ => bin_mul_nat (a := 32) (b := j) (by omega)),
                  .pv (.int .i64 (i : Int)),
                  .tv (.int .i64 (((32 * j) + i : Nat) : Int)) (sBin .add 3 (.tmp 80) (.tmp 81) (.int .i64 ((32 * j : Nat) : Int)) (.int .i64 (i : Int))) (fun _ => bin_add_nat (a := 32 * j) (b := i) (by omega)),
                  .pv (.int .i64 (i : Int)),
                  .tv (.pointer (some ⟨(ηq18 7).blk 0, 0 + i * 1, none⟩)) (Instr.indexAt 67 (.pointer (some ⟨(ηq18 7).blk 0, 0, none⟩)) (.int .i64 (i : Int))) (fun _ => idx_ar (N := 32) (k := i) (by kernel_rfl) (by omega)),
                  .lt (.int .u8 (((cW r x j).getD i 0).toNat : Int)) 4 (0 + i * 1) ((ηq18 7).blk 0) (rB 32 (cW r x j)).toArray 67 (by simpa only [Nat.zero_add, Nat.mul_one] using rB_get (by omega)),
                  .tv (.pointer (some ⟨(ηq2 0).blk 0, 0 + ((32 * j) + i) * 1, none⟩)) (Instr.indexAt 22 (.pointer (some ⟨(ηq2 0).blk 0, 0, none⟩)) (.int .i64 (((32 * j) + i : Nat) : Int))) (fun _ => idx_ar (N := 64) (k := (32 * j) + i) (by kernel_rfl) (by omega)),
                  .sw 2 ((ηq2 0).blk 0) (0 + ((32 * j) + i) * 1) 22 (.int .u8 (((cW r x j).getD i 0).toNat : Int)) (rB 64 (fillL 64 (hB r x) (32 * j + i))).toArray (rB 64 ((fillL 64 (hB r x) (32 * j + i)).set ((32 * j) + i) ((cW r x j).getD i 0))).toArray (by rw [Nat.zero_add, Nat.mul_one]; exact rB_set (show (fillL 64 (hB r x) (32 * j + i)).length = 64 by first | rfl | (simp only [List.length_set, List.length_append, List.length_replicate, List.length_cons, List.length_nil, List.length_map, List.length_range, List.length_take, List.length_drop, fillL_len, colsB_len, HCW, hr]; done) | (simp only [List.length_set, List.length_append, List.length_replicate, List.length_cons, List.length_nil, List.length_map, List.length_range, List.length_take, List.length_drop, fillL_len, colsB_len, HCW, hr]; omega))) (by rw [Nat.zero_add, Nat.mul_one]; exact rL_lt (by omega))])
                (fun ηq25 L => L.set 2 ((ηq2 0).blk 0, Obj.cells (rB 64 ((fillL 64 (hB r x) (32 * j + i)).set ((32 * j) + i) ((cW r x j).getD i 0))).toArray 22 (0, 0))) (by kernel_rfl) OW (fun _ => by kernel_rfl) ?_
              clear OW; intro ηq25 ysq25 Wq25 OW
              simp only [↓putE_cons, ↓putE_nil, valE, Hint.val, Act.put, List.setIfInBounds_toArray, List.set_cons_succ, List.set_cons_zero]
              gi_upto_region 24 with fail
              refine wpIn_region_re 5 (fun ηq26 => [.pv (.int .i64 (i : Int)),
                  .tv (.int .i64 ((i + 1 : Nat) : Int)) (sBin .add 3 (.tmp 77) (.const (.int .i64 1)) (.int .i64 (i : Int)) (.int .i64 1)) (fun _ => bin_add_nat (a := i) (b := 1) (by omega)),
                  .pv (.int .i64 ((i + 1 : Nat) : Int))])
                (fun ηq26 L => L) (by kernel_rfl) OW (fun _ => by kernel_rfl) ?_
              clear OW; intro ηq26 ysq26 Wq26 OW
              simp only [↓putE_cons, ↓putE_nil, valE, Hint.val, Act.put, List.setIfInBounds_toArray, List.set_cons_succ, List.set_cons_zero]
              gi_wp2
              go_roundw
              case rel => exact ⟨i + 1, by omega, by go_num, (by rw [show 32 * j + (i + 1) = (32 * j + i) + 1 from rfl, ← fillL_set (show 32 * j + i < 64 by omega), hB_at (by omega)]; exact OwnS.cast OW.out (by kernel_rfl))⟩
              case measure => (simp [intOf] <;> omega)
            have dhB24 := of_decide_eq_false hB24
            obtain rfl : i = 32 := by omega
            gi_upto_region 26 with fail
            refine wpIn_region_re 5 (fun ηq27 => [.pv (.int .i64 (cK r x j)),
                .pv (.int .i64 (jK ((List.range j).map (cK r x)))),
                .pv (.bool (decide ((jK ((List.range j).map (cK r x))) < (cK r x j))))])
              (fun ηq27 L => L) (by kernel_rfl) OW (fun _ => by kernel_rfl) ?_
            clear OW; intro ηq27 ysq27 Wq27 OW
            simp only [↓putE_cons, ↓putE_nil, valE, Hint.val, Act.put, List.setIfInBounds_toArray, List.set_cons_succ, List.set_cons_zero]
            cases hB28 : (decide ((jK ((List.range j).map (cK r x))) < (cK r x j)))
            case true =>
              have dhB28 := of_decide_eq_true hB28
              gi_upto_region 27 with fail
              refine wpIn_region_re 5 (fun ηq29 => [.pv (.int .i64 (cK r x j)),
                  .pv (.int .i64 (cK r x j))])
                (fun ηq29 L => L) (by kernel_rfl) OW (fun _ => by kernel_rfl) ?_
              clear OW; intro ηq29 ysq29 Wq29 OW
              simp only [↓putE_cons, ↓putE_nil, valE, Hint.val, Act.put, List.setIfInBounds_toArray, List.set_cons_succ, List.set_cons_zero]
              gi_upto_region 28 with fail
              refine wpIn_region_re 5 (fun ηq30 => [.pv (.int .i64 (cK r x j)),
                  .pv (.bool ((cK r x j) == 1))])
                (fun ηq30 L => L) (by kernel_rfl) OW (fun _ => by kernel_rfl) ?_
              clear OW; intro ηq30 ysq30 Wq30 OW
              simp only [↓putE_cons, ↓putE_nil, valE, Hint.val, Act.put, List.setIfInBounds_toArray, List.set_cons_succ, List.set_cons_zero]
              cases hB31 : ((cK r x j) == 1)
              case true =>
                have dhB31 := Lib.hid (eq_of_beq hB31)
                gi_upto_region 29 with fail
                refine wpIn_region_re 5 (fun ηq32 => [.pv (.int .i64 (jF ((List.range j).map (cK r x)))),
                    .tv (.int .i64 ((jF ((List.range j).map (cK r x))) + 1)) (sBin .add 3 (.tmp 93) (.const (.int .i64 1)) (.int .i64 (jF ((List.range j).map (cK r x)))) (.int .i64 1)) (fun _ => bin_add_in (a := (jF ((List.range j).map (cK r x)))) (b := 1) (by omega) (by omega)),
                    .pv (.int .i64 ((jF ((List.range j).map (cK r x))) + 1))])
                  (fun ηq32 L => L) (by kernel_rfl) OW (fun _ => by kernel_rfl) ?_
                clear OW; intro ηq32 ysq32 Wq32 OW
                simp only [↓putE_cons, ↓putE_nil, valE, Hint.val, Act.put, List.setIfInBounds_toArray, List.set_cons_succ, List.set_cons_zero]
                gi_upto_region 20 with fail
                refine wpIn_region_re 5 (fun ηq33 => [.pv (.int .i64 (j : Int)),
                    .tv (.int .i64 ((j + 1 : Nat) : Int)) (sBin .add 3 (.tmp 66) (.const (.int .i64 1)) (.int .i64 (j : Int)) (.int .i64 1)) (fun _ => bin_add_nat (a := j) (b := 1) (by omega)),
                    .pv (.int .i64 ((j + 1 : Nat) : Int))])
                  (fun ηq33 L => L) (by kernel_rfl) OW (fun _ => by kernel_rfl) ?_
                clear OW; intro ηq33 ysq33 Wq33 OW
                simp only [↓putE_cons, ↓putE_nil, valE, Hint.val, Act.put, List.setIfInBounds_toArray, List.set_cons_succ, List.set_cons_zero]
                gi_wp2
                go_roundw
                case rel => exact ⟨j + 1, by omega, by go_num, by rw [jK_rs]; exact congrArg (Value.int .i64) (by omega), congrArg (Value.int .i64) (by first | exact jF_st1 (by assumption) | exact jF_st0 (by assumption)), (by rw [show 32 * (j + 1) = 32 * j + 32 from rfl]; exact OwnS.pick OW.out [0, 1, 2, 3] _ (by kernel_rfl))⟩
                case measure => (simp [intOf] <;> omega)
              have dhB31 := ne_of_beq_false hB31
              gi_upto_region 20 with fail
              refine wpIn_region_re 5 (fun ηq34 => [.pv (.int .i64 (j : Int)),
                  .tv (.int .i64 ((j + 1 : Nat) : Int)) (sBin .add 3 (.tmp 66) (.const (.int .i64 1)) (.int .i64 (j : Int)) (.int .i64 1)) (fun _ => bin_add_nat (a := j) (b := 1) (by omega)),
                  .pv (.int .i64 ((j + 1 : Nat) : Int))])
                (fun ηq34 L => L) (by kernel_rfl) OW (fun _ => by kernel_rfl) ?_
              clear OW; intro ηq34 ysq34 Wq34 OW
              simp only [↓putE_cons, ↓putE_nil, valE, Hint.val, Act.put, List.setIfInBounds_toArray, List.set_cons_succ, List.set_cons_zero]
              gi_wp2
              go_roundw
              case rel => exact ⟨j + 1, by omega, by go_num, by rw [jK_rs]; exact congrArg (Value.int .i64) (by omega), congrArg (Value.int .i64) (by first | exact jF_st1 (by assumption) | exact jF_st0 (by assumption)), (by rw [show 32 * (j + 1) = 32 * j + 32 from rfl]; exact OwnS.pick OW.out [0, 1, 2, 3] _ (by kernel_rfl))⟩
              case measure => (simp [intOf] <;> omega)
            have dhB28 := of_decide_eq_false hB28
            gi_upto_region 28 with fail
            refine wpIn_region_re 5 (fun ηq35 => [.pv (.int .i64 (cK r x j)),
                .pv (.bool ((cK r x j) == 1))])
              (fun ηq35 L => L) (by kernel_rfl) OW (fun _ => by kernel_rfl) ?_
            clear OW; intro ηq35 ysq35 Wq35 OW
            simp only [↓putE_cons, ↓putE_nil, valE, Hint.val, Act.put, List.setIfInBounds_toArray, List.set_cons_succ, List.set_cons_zero]
            cases hB36 : ((cK r x j) == 1)
            case true =>
              have dhB36 := Lib.hid (eq_of_beq hB36)
              gi_upto_region 29 with fail
              refine wpIn_region_re 5 (fun ηq37 => [.pv (.int .i64 (jF ((List.range j).map (cK r x)))),
                  .tv (.int .i64 ((jF ((List.range j).map (cK r x))) + 1)) (sBin .add 3 (.tmp 93) (.const (.int .i64 1)) (.int .i64 (jF ((List.range j).map (cK r x)))) (.int .i64 1)) (fun _ => bin_add_in (a := (jF ((List.range j).map (cK r x)))) (b := 1) (by omega) (by omega)),
                  .pv (.int .i64 ((jF ((List.range j).map (cK r x))) + 1))])
                (fun ηq37 L => L) (by kernel_rfl) OW (fun _ => by kernel_rfl) ?_
              clear OW; intro ηq37 ysq37 Wq37 OW
              simp only [↓putE_cons, ↓putE_nil, valE, Hint.val, Act.put, List.setIfInBounds_toArray, List.set_cons_succ, List.set_cons_zero]
              gi_upto_region 20 with fail
              refine wpIn_region_re 5 (fun ηq38 => [.pv (.int .i64 (j : Int)),
                  .tv (.int .i64 ((j + 1 : Nat) : Int)) (sBin .add 3 (.tmp 66) (.const (.int .i64 1)) (.int .i64 (j : Int)) (.int .i64 1)) (fun _ => bin_add_nat (a := j) (b := 1) (by omega)),
                  .pv (.int .i64 ((j + 1 : Nat) : Int))])
                (fun ηq38 L => L) (by kernel_rfl) OW (fun _ => by kernel_rfl) ?_
              clear OW; intro ηq38 ysq38 Wq38 OW
              simp only [↓putE_cons, ↓putE_nil, valE, Hint.val, Act.put, List.setIfInBounds_toArray, List.set_cons_succ, List.set_cons_zero]
              gi_wp2
              go_roundw
              case rel => exact ⟨j + 1, by omega, by go_num, by rw [jK_rs]; exact congrArg (Value.int .i64) (by omega), congrArg (Value.int .i64) (by first | exact jF_st1 (by assumption) | exact jF_st0 (by assumption)), (by rw [show 32 * (j + 1) = 32 * j + 32 from rfl]; exact OwnS.pick OW.out [0, 1, 2, 3] _ (by kernel_rfl))⟩
              case measure => (simp [intOf] <;> omega)
            have dhB36 := ne_of_beq_false hB36
            gi_upto_region 20 with fail
            refine wpIn_region_re 5 (fun ηq39 => [.pv (.int .i64 (j : Int)),
                .tv (.int .i64 ((j + 1 : Nat) : Int)) (sBin .add 3 (.tmp 66) (.const (.int .i64 1)) (.int .i64 (j : Int)) (.int .i64 1)) (fun _ => bin_add_nat (a := j) (b := 1) (by omega)),
                .pv (.int .i64 ((j + 1 : Nat) : Int))])
              (fun ηq39 L => L) (by kernel_rfl) OW (fun _ => by kernel_rfl) ?_
            clear OW; intro ηq39 ysq39 Wq39 OW
            simp only [↓putE_cons, ↓putE_nil, valE, Hint.val, Act.put, List.setIfInBounds_toArray, List.set_cons_succ, List.set_cons_zero]
            gi_wp2
            go_roundw
            case rel => exact ⟨j + 1, by omega, by go_num, by rw [jK_rs]; exact congrArg (Value.int .i64) (by omega), congrArg (Value.int .i64) (by first | exact jF_st1 (by assumption) | exact jF_st0 (by assumption)), (by rw [show 32 * (j + 1) = 32 * j + 32 from rfl]; exact OwnS.pick OW.out [0, 1, 2, 3] _ (by kernel_rfl))⟩
            case measure => (simp [intOf] <;> omega)
        have hB17 := (Bool.and_true _).symm.trans hB17
        have dhB17 := of_decide_eq_false hB17
        obtain rfl : j = 2 := by omega
        gi_upto_region 30 with fail
        refine wpIn_region_re 4 (fun ηq40 => [.pv (.int .i64 (jK ((List.range 2).map (cK r x)))),
            .pv (.bool (decide (1 < (jK ((List.range 2).map (cK r x))))))])
          (fun ηq40 L => L) (by kernel_rfl) OW (fun _ => by kernel_rfl) ?_
        clear OW; intro ηq40 ysq40 Wq40 OW
        simp only [↓putE_cons, ↓putE_nil, valE, Hint.val, Act.put, List.setIfInBounds_toArray, List.set_cons_succ, List.set_cons_zero]
        cases hB41 : (decide (1 < (jK ((List.range 2).map (cK r x)))))
        case true =>
          have dhB41 := of_decide_eq_true hB41
          gi_upto_region 31 with fail
          refine wpIn_region_re 4 (fun ηq42 => [.pv (.agg (rB 64 (List.replicate 64 0)).toArray),
              .pv (.int .i64 (jK ((List.range 2).map (cK r x)))),
              .ss 1 ((ηq1 1).blk 0) 0 22 (rB 64 (List.replicate 64 0)) (rB 64 (List.replicate 64 0)).toArray,
              .pv (.int .i64 (jK ((List.range 2).map (cK r x)))),
              .pv (.int .i64 0)])
            (fun ηq42 L => L) (by kernel_rfl) OW (fun _ => by kernel_rfl) ?_
          clear OW; intro ηq42 ysq42 Wq42 OW
          simp only [↓putE_cons, ↓putE_nil, valE, Hint.val, Act.put, List.setIfInBounds_toArray, List.set_cons_succ, List.set_cons_zero]
          gi_wp2
          exact leavesS OW [.s (rB 64 (List.replicate 64 0)) 1, .t (.int .i64 (jK ((List.range 2).map (cK r x)))), .t (.int .i64 0)] (by kernel_rfl) fun hO => ⟨(by first | (rw [(jAB2_bad (by assumption)).1, (jAB2_bad (by assumption)).2.1, (jAB2_bad (by assumption)).2.2]; rfl) | (rw [(jAB2_ok hr (by assumption)).1, (jAB2_ok hr (by assumption)).2.1, (jAB2_ok hr (by assumption)).2.2]; rfl)), hO.done⟩
        have dhB41 := of_decide_eq_false hB41
        gi_upto_region 32 with fail
        refine wpIn_region_re 4 (fun ηq43 => [.ls (rB 64 (fillL 64 (hB r x) (32 * 2))) 2 0,
            .pv (.int .i64 (jK ((List.range 2).map (cK r x)))),
            .pv (.int .i64 (jF ((List.range 2).map (cK r x)))),
            .ss 1 ((ηq1 1).blk 0) 0 22 (rB 64 (fillL 64 (hB r x) (32 * 2))) (rB 64 (fillL 64 (hB r x) (32 * 2))).toArray,
            .pv (.int .i64 (jK ((List.range 2).map (cK r x)))),
            .pv (.int .i64 (jF ((List.range 2).map (cK r x))))])
          (fun ηq43 L => L.set 1 ((ηq1 1).blk 0, Obj.cells (rB 64 (fillL 64 (hB r x) (32 * 2))).toArray 22 (0, 0))) (by kernel_rfl) OW (fun _ => by kernel_rfl) ?_
        clear OW; intro ηq43 ysq43 Wq43 OW
        simp only [↓putE_cons, ↓putE_nil, valE, Hint.val, Act.put, List.setIfInBounds_toArray, List.set_cons_succ, List.set_cons_zero]
        gi_wp2
        exact leavesS OW [.s (rB 64 (fillL 64 (hB r x) (32 * 2))) 1, .t (.int .i64 (jK ((List.range 2).map (cK r x)))), .t (.int .i64 (jF ((List.range 2).map (cK r x))))] (by kernel_rfl) fun hO => ⟨(by first | (rw [(jAB2_bad (by assumption)).1, (jAB2_bad (by assumption)).2.1, (jAB2_bad (by assumption)).2.2]; rfl) | (rw [(jAB2_ok hr (by assumption)).1, (jAB2_ok hr (by assumption)).2.1, (jAB2_ok hr (by assumption)).2.2]; rfl)), hO.done⟩
end Go.Proofs.Ytkeheickaogpiaa
