/- Several texts in one: Hh Hi. -/
import Derived.Test.YtdglhppcfdpcaaaHfA
namespace Go.Proofs.Ytdglhppcfdpcaaa.E
open Go Go.RowKit Go.Shelf
set_option linter.unusedVariables false
set_option linter.unusedSimpArgs false
attribute [local irreducible] tlL trimL rtTo mulL modL exB logL genL
theorem xpmodH (g : Nat) (v u : Value) (p G : List UInt8) (t : UInt8) (hG : tlL G = 5) (hGl : G.length = 5) (ht : xdiv_0 1 (G.getD 4 0) = t) (hp : p.length ≤ 50000) (h4 : 4 ≤ p.length) : Con Try.prog 67 #[pt g 0, v, u] [ob g (rB 255 exB ++ rN 256 logL).toArray 131, .p (SqE eB v p), .p (SqE eB u G)] [] (fun E => [slB (E.val 0) (modL p G t)]) (fun E => .tuple #[(E.val 0), i6 0]) :=
  xpmod g v u p G 4 t hp (by rw [hGl]; decide) hG h4 ht
set_option maxRecDepth 100000 in
theorem xrschkG (cb g : Nat) (u : Value) (d v G : List UInt8) (t : UInt8) (hd : d.length = 32) (hv : v.length = 3) (hG : tlL G = 5) (hGl : G.length = 5) (ht : xdiv_0 1 (G.getD 4 0) = t) (hml : (modL ((List.replicate 4 0 ++ d) ++ v) G t).length ≤ 4) (r : List UInt8) (hr : modL ((List.replicate 4 0 ++ d) ++ v) G t ++ (List.replicate 4 (0 : UInt8)).drop (modL ((List.replicate 4 0 ++ d) ++ v) G t).length = r) : Con Try.prog 39 #[pt cb 0, .agg (rB 32 d).toArray, .agg (rB 3 v).toArray] [ob cb #[pt g 0, u] 128, ob g (rB 255 exB ++ rN 256 logL).toArray 131, .p (SqE eB u G)] [] (fun _ => []) (fun _ => .agg (rB 4 r).toArray) := by
 have hf := Try.func39
 have hE := enters_of hf (by kernel_rfl) rfl
 refine Con.ro 2 rfl (fun bq2 hq2 => ?_) hE
 refine fE hf (fun w cs => ?_) hE
 have hms : ((List.replicate 4 (0 : UInt8) ++ d) ++ v).length = 39 := by rw [List.length_append, List.length_append, List.length_replicate, hd, hv]
 refine rr (fun _ => []) (fun q1 => [(4, pt ((q1 0).blk 0) 0), (5, pt ((q1 1).blk 0) 0), (6, pt ((q1 2).blk 0) 0)]) [] (fun q1 L => L ++ [ob ((q1 0).blk 0) (rB 32 d).toArray 98, ob ((q1 1).blk 0) (rB 3 v).toArray 93, ob ((q1 2).blk 0) (rB 4 (List.replicate 4 0)).toArray 99]) fun q1 => ?_
 refine rr (fun _ => []) (fun q2 => [(7, pt ((q2 0).blk 0) 0)]) [] (fun q2 L => L ++ [ob ((q2 0).blk 0) (rB 4 (List.replicate 4 0)).toArray 99]) fun q2 => ?_
 refine rr (fun q3 => [(0, mkS kB 7 4), (1, aS 98 ((q1 0).blk 0) 32 1), (2, .m (apS 7 3 slTB (.slice (some ⟨(q3 0).blk 0, 0, none⟩) 4 4) (.slice (some ⟨(q1 0).blk 0, 0, none⟩) 32 32) (xs := List.replicate 4 0) (ys := d) (ob ((q1 0).blk 0) (rB 32 d).toArray 98) (fun _ h => by rw [show _ = _ from h]; exact row_src (fun _ => rfl) hd) h1B (fun _ => rfl) (by simp only [List.length_set, List.length_append, List.length_replicate, List.length_cons, List.length_nil, List.length_map, List.length_range, List.length_take, List.length_drop, hd, hv, hGl]; omega))), (3, aS 93 ((q1 1).blk 0) 3 1), (4, .m (apS 7 4 slTB ((q3 2).val 0) (.slice (some ⟨(q1 1).blk 0, 0, none⟩) 3 3) (xs := (List.replicate 4 0) ++ d) (ys := v) (ob ((q1 1).blk 0) (rB 3 v).toArray 93) (fun _ h => by rw [show _ = _ from h]; exact row_src (fun _ => rfl) hv) h1B (fun _ => rfl) (by simp only [List.length_set, List.length_append, List.length_replicate, List.length_cons, List.length_nil, List.length_map, List.length_range, List.length_take, List.length_drop, hd, hv, hGl]; omega)))]) (fun q3 => [(8, (q3 4).val 0)]) [] (fun q3 L => L ++ [slB ((q3 4).val 0) (((List.replicate 4 0) ++ d) ++ v)]) fun q3 => ?_
 refine rr (fun q4 => [(0, .v (pt cb 0)), (1, .v (pt cb 0)), (2, .v (pt cb 0)), (3, .m (ld 0 (pt g 0))), (4, .v ((q3 4).val 0)), (5, .v (pt cb 0)), (6, .v (pt cb 0)), (7, .v (pt cb 1)), (8, .m (ld 0 (u))), (9, .c [1, 7, 2] [8] (Con.at (rd' := [ob g (rB 255 exB ++ rN 256 logL).toArray 131, slB ((q3 4).val 0) (((List.replicate 4 0) ++ d) ++ v), .c bq2]) (xpmodH g ((q3 4).val 0) u ((((List.replicate 4 0) ++ d) ++ v)) G t hG hGl ht (by omega) (by omega)) (atS (atW (fun _ h => SlE.sq h) (atC hq2 (fun _ h => h)))))), (10, .v (.tuple #[(q4 9).val 0, i6 0])), (11, .v ((q4 9).val 0)), (12, .v (i6 0)), (13, .v ((q4 9).val 0)), (14, .v (i6 0))]) (fun q4 => [(9, (q4 9).val 0), (10, i6 0)]) [] (fun q4 L => L ++ [slB ((q4 9).val 0) (modL ((((List.replicate 4 0) ++ d) ++ v)) (G) t)]) fun q4 => ?_
 refine r0 [] [(30, .bool true)] [] ?_
 refine cT _ rfl ?_
 refine rr (fun _ => [(0, aS 99 ((q2 0).blk 0) 4 1), (2, .m (cpS kB 6 ((q2 0).blk 0) 0 4 4 (rB 4 (List.replicate 4 0)).toArray (rB 4 ((List.replicate 4 0).take 0 ++ (modL ((((List.replicate 4 0) ++ d) ++ v)) (G) t) ++ (List.replicate 4 0).drop (0 + ((modL ((((List.replicate 4 0) ++ d) ++ v)) (G) t).length)))).toArray 99 89 89 8 (slB ((q4 9).val 0) (modL ((((List.replicate 4 0) ++ d) ++ v)) (G) t)) ((q4 9).val 0) (modL ((((List.replicate 4 0) ++ d) ++ v)) (G) t) (fun _ h => SlE.src h) (by omega) (by rw [List.size_toArray, rB_ln]; omega) (congrArg List.toArray (rL_splice (d := 0) (fun _ => rfl) List.length_replicate rfl (by omega)))))]) (fun _ => []) [] (fun _ L => L.set 6 (ob ((q2 0).blk 0) (rB 4 ((List.replicate 4 0).take 0 ++ (modL ((((List.replicate 4 0) ++ d) ++ v)) (G) t) ++ (List.replicate 4 0).drop (0 + ((modL ((((List.replicate 4 0) ++ d) ++ v)) (G) t).length)))).toArray 99)) fun q6 => ?_
 refine rr (fun _ => [(0, .l 6), (1, .s 5)]) (fun _ => []) [] (fun _ L => L.set 5 (ob ((q1 2).blk 0) (rB 4 ((List.replicate 4 0).take 0 ++ (modL ((((List.replicate 4 0) ++ d) ++ v)) (G) t) ++ (List.replicate 4 0).drop (0 + ((modL ((((List.replicate 4 0) ++ d) ++ v)) (G) t).length)))).toArray 99)) fun q7 => ?_
 exact lfV (.agg (rB 4 ((List.replicate 4 0).take 0 ++ (modL ((((List.replicate 4 0) ++ d) ++ v)) (G) t) ++ (List.replicate 4 0).drop (0 + ((modL ((((List.replicate 4 0) ++ d) ++ v)) (G) t).length)))).toArray) Env.zero (by rw [Nat.zero_add, List.take_zero, List.nil_append, hr]) [] [(0, 0), (1, 1), (2, 2)] [5]
theorem xrschk (cb g : Nat) (u : Value) (d v : List UInt8) (hd : d.length = 32) (hv : v.length = 3) : Con Try.prog 39 #[.pointer (some ⟨cb, 0, none⟩), .agg (rB 32 d).toArray, .agg (rB 3 v).toArray] [ob cb #[.pointer (some ⟨g, 0, none⟩), u] 128, ob g (rB 255 exB ++ rN 256 logL).toArray 131, .p (SqE eB u genL)] [] (fun _ => []) (fun _ => .agg (rB 4 (chkL d v)).toArray) :=
  xrschkG cb g u d v genL tG hd hv genL_tl genL_ln rfl (by rw [modG_eq]; exact modG_le d v) (chkL d v) (by rw [modG_eq]; exact chkL_copy d v)
theorem dg_dec {P : Program} {T : TypeId} {x y : Operand} {w : World} {k : Nat} (h : k < 9223372036854775807) : (sBin .sub T x y (.int .i64 ((k + 1 : Nat) : Int)) (.int .i64 1)).run P w = .ok (.int .i64 (k : Int)) w := bin_sub_n (a := k + 1) (b := 1) (by omega) (by omega)
def rsLk (s : List UInt8) : Nat := (locF (Go.Proofs.Ytdglhppcfdpcaaa.co s)).kind
def rsLp (s : List UInt8) : Int := (locF (Go.Proofs.Ytdglhppcfdpcaaa.co s)).place
def rsLv (s : List UInt8) : UInt8 := (locF (Go.Proofs.Ytdglhppcfdpcaaa.co s)).val
def vdW (s : List UInt8) : Value := .agg #[.int .i64 ((rsLk s : Nat) : Int), .int .i64 (rsLp s), .int .u8 ((rsLv s).toNat : Int)]
theorem vdW_eq {s : List UInt8} {k : Nat} {p : Int} {v : UInt8} (h : locF (Go.Proofs.Ytdglhppcfdpcaaa.co s) = ⟨k, p, v⟩) : Value.agg #[.int .i64 (k : Int), .int .i64 p, .int .u8 (v.toNat : Int)] = vdW s := by
  unfold vdW rsLk rsLp rsLv
  rw [h]
theorem u8_ne' {b : UInt8} (h : b ≠ 0) : ((b.toNat : Int) == 0) = false := beq_false_of_ne fun e => h (UInt8.toNat_inj.1 (by show b.toNat = 0; omega))
theorem div_gd (a : UInt8) {b : UInt8} (h : b ≠ 0) : xdiv_0 a b = Go.Proofs.Ytdglhppcfdpcaaa.gd a b := by
  unfold xdiv_0 Go.Proofs.Ytdglhppcfdpcaaa.gd gdivN
  rw [u8_ne' h, cond_false]
  by_cases ha : a = 0
  · subst ha; rfl
  · have ha1 : a.toNat ≠ 0 := fun e => ha (UInt8.toNat_inj.1 e)
    have l1 := lg_lt a
    have l2 := lg_lt b
    rw [u8_ne' ha, cond_false, if_neg ha1, ex_gE (ctN_lt _)]
    congr 2
    unfold ctN gL
    omega
theorem lc_nul {s : List UInt8} (hs : s.length = 4) : decide (s = List.replicate 4 0) = decide (nul (Go.Proofs.Ytdglhppcfdpcaaa.co s)) := by
  rw [decide_eq_decide]
  constructor
  · rintro rfl
    exact ⟨rfl, rfl, rfl, rfl⟩
  · rintro ⟨h0, h1, h2, h3⟩
    refine list_ext (by rw [hs, List.length_replicate]) fun i hi => ?_
    rw [hs] at hi
    have : i = 0 ∨ i = 1 ∨ i = 2 ∨ i = 3 := by omega
    rcases this with rfl | rfl | rfl | rfl
    · exact h0
    · exact h1
    · exact h2
    · exact h3
theorem lc_1 {s : List UInt8} (hs : s.length = 4) (h : decide (s = List.replicate 4 0) = true) : Value.agg #[.int .i64 0, .int .i64 (-1), .int .u8 0] = vdW s :=
  vdW_eq (k := 0) (p := -1) (v := 0) (locF_nul (of_decide_eq_true (lc_nul hs ▸ h)))
theorem lc_no {s : List UInt8} (hs : s.length = 4) (h : decide (s = List.replicate 4 0) = false) : ¬ nul (Go.Proofs.Ytdglhppcfdpcaaa.co s) := of_decide_eq_false (lc_nul hs ▸ h)
theorem lc_r {s : List UInt8} (h : ((xdiv_1 (s.getD 0 0) != 0) || (((xdiv_0 (s.getD 1 0) (s.getD 0 0)).toNat : Int) == 0)) = false) : Go.Proofs.Ytdglhppcfdpcaaa.co s 0 ≠ 0 ∧ gm (xdiv_0 (s.getD 1 0) (s.getD 0 0)) (Go.Proofs.Ytdglhppcfdpcaaa.co s 0) = Go.Proofs.Ytdglhppcfdpcaaa.co s 1 ∧ xdiv_0 (s.getD 1 0) (s.getD 0 0) ≠ 0 := by
  rw [Bool.or_eq_false_iff] at h
  have h0 : s.getD 0 0 ≠ 0 := fun e => by rw [e] at h; exact absurd h.1 (by decide)
  refine ⟨h0, ?_, fun e => by rw [e] at h; exact absurd h.2 (by decide)⟩
  rw [div_gd _ h0]
  exact gm_gd (s.getD 1 0) h0
theorem lc_2 {s : List UInt8} (hs : s.length = 4) (h3 : decide (s = List.replicate 4 0) = false) (h : ((xdiv_1 (s.getD 0 0) != 0) || (((xdiv_0 (s.getD 1 0) (s.getD 0 0)).toNat : Int) == 0)) = true) : Value.agg #[.int .i64 3, .int .i64 (-1), .int .u8 0] = vdW s := by
  refine vdW_eq (k := 3) (p := -1) (v := 0) (locF_lost (lc_no hs h3) fun i _ => ?_)
  by_cases h0 : s.getD 0 0 = 0
  · cases hh : hit (Go.Proofs.Ytdglhppcfdpcaaa.co s) i with
    | false => rfl
    | true => exact absurd h0 ((hit_iff _ _).1 hh).1
  · rw [inv_ok h0, Bool.false_or] at h
    refine no_hit_ratio (r := xdiv_0 (s.getD 1 0) (s.getD 0 0)) ?_ (.inl (u8_eq h)) i
    rw [div_gd _ h0]
    exact gm_gd (s.getD 1 0) h0
def rR (s : List UInt8) : UInt8 := xdiv_0 (s.getD 1 0) (s.getD 0 0)
theorem lc_hc {s : List UInt8} {k : Nat} (hc : ∀ j, j < k → s.getD (j + 1) 0 = gm (s.getD j 0) (rR s)) (h : ((s.getD (k + 1) 0).toNat : Int) = ((gm (s.getD k 0) (xdiv_0 (s.getD 1 0) (s.getD 0 0))).toNat : Int)) : ∀ j, j < k + 1 → s.getD (j + 1) 0 = gm (s.getD j 0) (rR s) := by
  intro j hj
  rcases Nat.lt_or_ge j k with h1 | h1
  · exact hc j h1
  · obtain rfl : j = k := by omega
    exact UInt8.toNat_inj.1 (Int.ofNat.inj h)
theorem lc_3 {s : List UInt8} {k : Nat} (hs : s.length = 4) (h3 : decide (s = List.replicate 4 0) = false) (h7 : ((xdiv_1 (s.getD 0 0) != 0) || (((xdiv_0 (s.getD 1 0) (s.getD 0 0)).toNat : Int) == 0)) = false) (hk : ((k + 1 : Nat) : Int) < 4) (h : ((s.getD (k + 1) 0).toNat : Int) ≠ ((gm (s.getD k 0) (xdiv_0 (s.getD 1 0) (s.getD 0 0))).toNat : Int)) : Value.agg #[.int .i64 3, .int .i64 (-1), .int .u8 0] = vdW s := by
  obtain ⟨a1, a2, a3⟩ := lc_r h7
  have h' : s.getD (k + 1) 0 ≠ gm (s.getD k 0) (xdiv_0 (s.getD 1 0) (s.getD 0 0)) := fun e => h (by rw [e])
  refine vdW_eq (k := 3) (p := -1) (v := 0) (locF_lost (lc_no hs h3) fun i _ => no_hit_ratio a2 ?_ i)
  have hk3 : k = 0 ∨ k = 1 ∨ k = 2 := by omega
  rcases hk3 with rfl | rfl | rfl
  · exact absurd (a2.symm.trans (gm_comm _ _)) h'
  · exact .inr (.inl h')
  · exact .inr (.inr h')
theorem lc_hit {s : List UInt8} {k : Nat} (h7 : ((xdiv_1 (s.getD 0 0) != 0) || (((xdiv_0 (s.getD 1 0) (s.getD 0 0)).toNat : Int) == 0)) = false) (hk : k ≤ 3) (hk2 : 4 ≤ ((k + 1 : Nat) : Int)) (hc : ∀ j, j < k → s.getD (j + 1) 0 = gm (s.getD j 0) (rR s)) : hit (Go.Proofs.Ytdglhppcfdpcaaa.co s) (gL (rR s).toNat) = true ∧ xlog_0 (xdiv_0 (s.getD 1 0) (s.getD 0 0)) = gL (rR s).toNat ∧ (xlog_1 (xdiv_0 (s.getD 1 0) (s.getD 0 0)) != 0) = false ∧ gL (rR s).toNat < 255 := by
  obtain ⟨a1, a2, a3⟩ := lc_r h7
  obtain rfl : k = 3 := by omega
  refine ⟨hit_ratio a1 a2 a3 (hc 1 (by omega)) (hc 2 (by omega)), ?_, ?_, gL_lt255 a3⟩
  · unfold xlog_0
    rw [u8_ne' a3]; rfl
  · unfold xlog_1
    rw [u8_ne' a3]; rfl
theorem lc_4 {s : List UInt8} {k : Nat} (hs : s.length = 4) (h3 : decide (s = List.replicate 4 0) = false) (h7 : ((xdiv_1 (s.getD 0 0) != 0) || (((xdiv_0 (s.getD 1 0) (s.getD 0 0)).toNat : Int) == 0)) = false) (hk : k ≤ 3) (hk2 : 4 ≤ ((k + 1 : Nat) : Int)) (hc : ∀ j, j < k → s.getD (j + 1) 0 = gm (s.getD j 0) (rR s)) (h : ((xlog_1 (xdiv_0 (s.getD 1 0) (s.getD 0 0)) != 0) || decide (39 ≤ ((xlog_0 (xdiv_0 (s.getD 1 0) (s.getD 0 0)) : Nat) : Int))) = true) : Value.agg #[.int .i64 3, .int .i64 (-1), .int .u8 0] = vdW s := by
  obtain ⟨b1, b2, b3, b4⟩ := lc_hit h7 hk hk2 hc
  rw [b3, Bool.false_or, b2] at h
  have h39 := of_decide_eq_true h
  refine vdW_eq (k := 3) (p := -1) (v := 0) (locF_lost (lc_no hs h3) fun i hi => ?_)
  cases hh : hit (Go.Proofs.Ytdglhppcfdpcaaa.co s) i with
  | false => rfl
  | true => have := hit_uniq b4 (by omega) b1 hh; omega
theorem lc_5 {s : List UInt8} {k : Nat} (h7 : ((xdiv_1 (s.getD 0 0) != 0) || (((xdiv_0 (s.getD 1 0) (s.getD 0 0)).toNat : Int) == 0)) = false) (hk : k ≤ 3) (hk2 : 4 ≤ ((k + 1 : Nat) : Int)) (hc : ∀ j, j < k → s.getD (j + 1) 0 = gm (s.getD j 0) (rR s)) (h : ((xlog_1 (xdiv_0 (s.getD 1 0) (s.getD 0 0)) != 0) || decide (39 ≤ ((xlog_0 (xdiv_0 (s.getD 1 0) (s.getD 0 0)) : Nat) : Int))) = false) (h36 : 36 ≤ ((xlog_0 (xdiv_0 (s.getD 1 0) (s.getD 0 0)) : Nat) : Int)) : Value.agg #[.int .i64 2, .int .i64 ((xlog_0 (xdiv_0 (s.getD 1 0) (s.getD 0 0)) : Nat) : Int), .int .u8 ((s.getD 0 0).toNat : Int)] = vdW s := by
  obtain ⟨b1, b2, b3, b4⟩ := lc_hit h7 hk hk2 hc
  rw [b3, Bool.false_or] at h
  have h39 := of_decide_eq_false h
  rw [b2] at h39 h36 ⊢
  exact vdW_eq (k := 2) (locF_hi (by omega) (by omega) b1)
theorem lc_6 {s : List UInt8} {k : Nat} (h7 : ((xdiv_1 (s.getD 0 0) != 0) || (((xdiv_0 (s.getD 1 0) (s.getD 0 0)).toNat : Int) == 0)) = false) (hk : k ≤ 3) (hk2 : 4 ≤ ((k + 1 : Nat) : Int)) (hc : ∀ j, j < k → s.getD (j + 1) 0 = gm (s.getD j 0) (rR s)) (h36 : ((xlog_0 (xdiv_0 (s.getD 1 0) (s.getD 0 0)) : Nat) : Int) < 36) : Value.agg #[.int .i64 1, .int .i64 ((xlog_0 (xdiv_0 (s.getD 1 0) (s.getD 0 0)) : Nat) : Int), .int .u8 ((s.getD 0 0).toNat : Int)] = vdW s := by
  obtain ⟨b1, b2, b3, b4⟩ := lc_hit h7 hk hk2 hc
  rw [b2] at h36 ⊢
  exact vdW_eq (k := 1) (locF_lo (by omega) b1)
set_option maxRecDepth 100000 in
theorem xrsloc (cb g : Nat) (u : Value) (s : List UInt8) (hs : s.length = 4) : Con Try.prog 101 #[pt cb 0, .agg (rB 4 s).toArray] [ob cb #[pt g 0, u] 128, ob g (rB 255 exB ++ rN 256 logL).toArray 131, .p (SqE eB u genL)] [] (fun _ => []) (fun _ => .agg #[i6 ((rsLk s : Nat) : Int), i6 (rsLp s), u1 ((rsLv s).toNat : Int)]) := by
 have hf := Try.func101
 have hE := enters_of hf (by kernel_rfl) rfl
 refine Con.ro 2 rfl (fun bq2 hq2 => ?_) hE
 refine fE hf (fun w cs => ?_) hE
 refine rr (fun _ => []) (fun q1 => [(3, pt ((q1 0).blk 0) 0), (4, pt ((q1 1).blk 0) 0)]) [] (fun q1 L => L ++ [ob ((q1 0).blk 0) (rB 4 s).toArray 99, ob ((q1 1).blk 0) #[i6 0, i6 0, u1 0] 169]) fun q1 => ?_
 refine r0 [(0, .l 3), (2, .t (tbT 99 fun _ _ _ => bin_eqT (xs := rB 4 s) (ys := rB 4 (List.replicate 4 0)) (by kernel_rfl) (eqc_rB hs List.length_replicate)))] [(11, .bool (decide (s = List.replicate 4 0)))] [] ?_
 refine cB (decide (s = List.replicate 4 0)) (fun h3 => ?_) fun h3 => ?_
 ·refine rr (fun _ => [(1, .s 4)]) (fun _ => []) [] (fun _ L => L.set 4 (ob ((q1 1).blk 0) #[i6 0, i6 (-1), u1 0] 169)) fun q4 => ?_
  exact lfV (.agg #[i6 0, i6 (-1), u1 0]) Env.zero (by first | exact lc_1 hs (by assumption) | exact lc_2 hs (by assumption) (by assumption) | exact lc_3 hs (by assumption) (by assumption) (by assumption) (by assumption) | exact lc_4 hs (by assumption) (by assumption) (by omega) (by assumption) hc (by assumption) | exact lc_5 (by assumption) (by omega) (by assumption) hc (by assumption) (by assumption) | exact lc_6 (by assumption) (by omega) (by assumption) hc (by assumption)) [] [(0, 0), (1, 1), (2, 2)] [4]
 refine r0 [(0, .v (pt cb 0)), (1, .v (pt cb 0)), (2, .v (pt cb 0)), (3, .m (ld 0 (pt g 0))), (4, .v (pt ((q1 0).blk 0) 1)), (5, .m (ld 3 (u1 ((s.getD 1 0).toNat : Int)))), (6, .v (pt ((q1 0).blk 0) 0)), (7, .m (ld 3 (u1 ((s.getD 0 0).toNat : Int)))), (8, .c [1] [] (xdiv g (s.getD 1 0) (s.getD 0 0))), (9, .v (.tuple #[u1 ((xdiv_0 (s.getD 1 0) (s.getD 0 0)).toNat : Int), i6 (xdiv_1 (s.getD 0 0))])), (10, .v (u1 ((xdiv_0 (s.getD 1 0) (s.getD 0 0)).toNat : Int))), (11, .v (i6 (xdiv_1 (s.getD 0 0)))), (12, .v (u1 ((xdiv_0 (s.getD 1 0) (s.getD 0 0)).toNat : Int))), (13, .v (i6 (xdiv_1 (s.getD 0 0))))] [(5, u1 ((xdiv_0 (s.getD 1 0) (s.getD 0 0)).toNat : Int)), (6, i6 (xdiv_1 (s.getD 0 0)))] [] ?_
 refine r0 [] [(30, .bool (((xdiv_1 (s.getD 0 0)) != 0) || (((xdiv_0 (s.getD 1 0) (s.getD 0 0)).toNat : Int) == 0)))] [] ?_
 refine cB (((xdiv_1 (s.getD 0 0)) != 0) || (((xdiv_0 (s.getD 1 0) (s.getD 0 0)).toNat : Int) == 0)) (fun h7 => ?_) fun h7 => ?_
 ·refine rr (fun _ => [(0, .c [] [] (xrslost)), (1, .s 4)]) (fun _ => []) [] (fun _ L => L.set 4 (ob ((q1 1).blk 0) #[i6 3, i6 (-1), u1 0] 169)) fun q8 => ?_
  exact lfV (.agg #[i6 3, i6 (-1), u1 0]) Env.zero (by first | exact lc_1 hs (by assumption) | exact lc_2 hs (by assumption) (by assumption) | exact lc_3 hs (by assumption) (by assumption) (by assumption) (by assumption) | exact lc_4 hs (by assumption) (by assumption) (by omega) (by assumption) hc (by assumption) | exact lc_5 (by assumption) (by omega) (by assumption) hc (by assumption) (by assumption) | exact lc_6 (by assumption) (by omega) (by assumption) hc (by assumption)) [] [(0, 0), (1, 1), (2, 2)] [4]
 refine r0 [] [(7, i6 1)] [] ?_
 refine lq (fun k => k ≤ 3 ∧ (∀ j, j < k → s.getD (j + 1) 0 = gm (s.getD j 0) (rR s))) (fun k => [(7, i6 ((k + 1 : Nat) : Int))]) (fun _ L => L) (fun k => 3 - k) 0 ⟨by omega, fun _ h => absurd h (Nat.not_lt_zero _)⟩ (by kernel_rfl) (by kernel_rfl) (fun k ⟨hk10, hc⟩ => ?_)
 refine r0 [] [(33, .bool (decide (((k + 1 : Nat) : Int) < 4)))] [] ?_
 refine cLt ((k + 1 : Nat) : Int) 4 (fun h12 dh12 => ?_) fun h12 dh12 => ?_
 ·refine r0 [(0, .v (i6 ((k + 1 : Nat) : Int))), (1, iA 99 .i64 ((q1 0).blk 0) 0 4 1 (k + 1)), (2, rD 3 ((q1 0).blk 0) (k + 1) 99 (rB 4 s) (rB_get (by omega))), (3, .v (pt cb 0)), (4, .v (pt cb 0)), (5, .v (pt cb 0)), (6, .m (ld 0 (pt g 0))), (7, .v (i6 ((k + 1 : Nat) : Int))), (8, .t (tv (sBin .sub 3 (.tmp 43) (.const (i6 1)) (i6 ((k + 1 : Nat) : Int)) (i6 1)) (fun _ => dg_dec (by omega)))), (9, iA 99 .i64 ((q1 0).blk 0) 0 4 1 k), (10, rD 3 ((q1 0).blk 0) k 99 (rB 4 s) (rB_get (by omega))), (11, .v (u1 ((xdiv_0 (s.getD 1 0) (s.getD 0 0)).toNat : Int))), (12, .c [1] [] (xmul g (s.getD k 0) (xdiv_0 (s.getD 1 0) (s.getD 0 0)))), (13, .v (.bool (((s.getD (k + 1) 0).toNat : Int) != ((gm (s.getD k 0) (xdiv_0 (s.getD 1 0) (s.getD 0 0))).toNat : Int))))] [(49, .bool (((s.getD (k + 1) 0).toNat : Int) != ((gm (s.getD k 0) (xdiv_0 (s.getD 1 0) (s.getD 0 0))).toNat : Int)))] [] ?_
  refine cNe ((s.getD (k + 1) 0).toNat : Int) ((gm (s.getD k 0) (xdiv_0 (s.getD 1 0) (s.getD 0 0))).toNat : Int) (fun h14 dh14 => ?_) fun h14 dh14 => ?_
  ·refine rr (fun _ => [(0, .c [] [] (xrslost)), (1, .s 4)]) (fun _ => []) [] (fun _ L => L.set 4 (ob ((q1 1).blk 0) #[i6 3, i6 (-1), u1 0] 169)) fun q15 => ?_
   exact lfV (.agg #[i6 3, i6 (-1), u1 0]) Env.zero (by first | exact lc_1 hs (by assumption) | exact lc_2 hs (by assumption) (by assumption) | exact lc_3 hs (by assumption) (by assumption) (by assumption) (by assumption) | exact lc_4 hs (by assumption) (by assumption) (by omega) (by assumption) hc (by assumption) | exact lc_5 (by assumption) (by omega) (by assumption) hc (by assumption) (by assumption) | exact lc_6 (by assumption) (by omega) (by assumption) hc (by assumption)) [] [(0, 0), (1, 1), (2, 2)] [4]
  refine r0 [(1, ad (k + 1) 1)] [(7, i6 (((k + 1) + 1 : Nat) : Int))] [7] ?_
  exact le (k + 1) ⟨by omega, lc_hc hc (by assumption)⟩ (by omega) (by kernel_rfl) [0, 1, 2, 3, 4] (by kernel_rfl)
 refine lx ?_
 refine r0 [(3, .l 0), (5, .c [1] [] (xlog g (xdiv_0 (s.getD 1 0) (s.getD 0 0))))] [(8, i6 (((xlog_0 (xdiv_0 (s.getD 1 0) (s.getD 0 0))) : Nat) : Int)), (6, i6 (xlog_1 (xdiv_0 (s.getD 1 0) (s.getD 0 0))))] [6] ?_
 refine r0 [] [(60, .bool (((xlog_1 (xdiv_0 (s.getD 1 0) (s.getD 0 0))) != 0) || (decide (39 ≤ (((xlog_0 (xdiv_0 (s.getD 1 0) (s.getD 0 0))) : Nat) : Int)))))] [] ?_
 refine cB (((xlog_1 (xdiv_0 (s.getD 1 0) (s.getD 0 0))) != 0) || (decide (39 ≤ (((xlog_0 (xdiv_0 (s.getD 1 0) (s.getD 0 0))) : Nat) : Int)))) (fun h19 => ?_) fun h19 => ?_
 ·refine rr (fun _ => [(0, .c [] [] (xrslost)), (1, .s 4)]) (fun _ => []) [] (fun _ L => L.set 4 (ob ((q1 1).blk 0) #[i6 3, i6 (-1), u1 0] 169)) fun q20 => ?_
  exact lfV (.agg #[i6 3, i6 (-1), u1 0]) Env.zero (by first | exact lc_1 hs (by assumption) | exact lc_2 hs (by assumption) (by assumption) | exact lc_3 hs (by assumption) (by assumption) (by assumption) (by assumption) | exact lc_4 hs (by assumption) (by assumption) (by omega) (by assumption) hc (by assumption) | exact lc_5 (by assumption) (by omega) (by assumption) hc (by assumption) (by assumption) | exact lc_6 (by assumption) (by omega) (by assumption) hc (by assumption)) [] [(0, 0), (1, 1), (2, 2)] [4]
 refine r0 [] [(68, .bool (decide (36 ≤ (((xlog_0 (xdiv_0 (s.getD 1 0) (s.getD 0 0))) : Nat) : Int))))] [] ?_
 refine cLe 36 (((xlog_0 (xdiv_0 (s.getD 1 0) (s.getD 0 0))) : Nat) : Int) (fun h22 dh22 => ?_) fun h22 dh22 => ?_
 ·refine rr (fun _ => [(2, .l 3), (4, .s 4)]) (fun _ => []) [] (fun _ L => L.set 4 (ob ((q1 1).blk 0) #[i6 2, i6 (((xlog_0 (xdiv_0 (s.getD 1 0) (s.getD 0 0))) : Nat) : Int), u1 ((s.getD 0 0).toNat : Int)] 169)) fun q23 => ?_
  exact lfV (.agg #[i6 2, i6 (((xlog_0 (xdiv_0 (s.getD 1 0) (s.getD 0 0))) : Nat) : Int), u1 ((s.getD 0 0).toNat : Int)]) Env.zero (by first | exact lc_1 hs (by assumption) | exact lc_2 hs (by assumption) (by assumption) | exact lc_3 hs (by assumption) (by assumption) (by assumption) (by assumption) | exact lc_4 hs (by assumption) (by assumption) (by omega) (by assumption) hc (by assumption) | exact lc_5 (by assumption) (by omega) (by assumption) hc (by assumption) (by assumption) | exact lc_6 (by assumption) (by omega) (by assumption) hc (by assumption)) [] [(0, 0), (1, 1), (2, 2)] [4]
 refine rr (fun _ => [(2, .l 3), (4, .s 4)]) (fun _ => []) [] (fun _ L => L.set 4 (ob ((q1 1).blk 0) #[i6 1, i6 (((xlog_0 (xdiv_0 (s.getD 1 0) (s.getD 0 0))) : Nat) : Int), u1 ((s.getD 0 0).toNat : Int)] 169)) fun q24 => ?_
 exact lfV (.agg #[i6 1, i6 (((xlog_0 (xdiv_0 (s.getD 1 0) (s.getD 0 0))) : Nat) : Int), u1 ((s.getD 0 0).toNat : Int)]) Env.zero (by first | exact lc_1 hs (by assumption) | exact lc_2 hs (by assumption) (by assumption) | exact lc_3 hs (by assumption) (by assumption) (by assumption) (by assumption) | exact lc_4 hs (by assumption) (by assumption) (by omega) (by assumption) hc (by assumption) | exact lc_5 (by assumption) (by omega) (by assumption) hc (by assumption) (by assumption) | exact lc_6 (by assumption) (by omega) (by assumption) hc (by assumption)) [] [(0, 0), (1, 1), (2, 2)] [4]
end Go.Proofs.Ytdglhppcfdpcaaa.E
namespace Go.Proofs.Ytdglhppcfdpcaaa.E
open Go Go.RowKit Go.Shelf
set_option linter.unusedVariables false
set_option linter.unusedSimpArgs false
attribute [local irreducible] tlL trimL rtTo mulL modL exB logL genL synL
theorem fx_place {s : List UInt8} (h : (((rsLk s : Nat) : Int) == 1) = true) : (rsLp s).toNat < 36 ∧ rsLp s = (((rsLp s).toNat : Nat) : Int) := by
  obtain ⟨i, h1, h2⟩ := locF_fixed (s := Go.Proofs.Ytdglhppcfdpcaaa.co s) h
  have : rsLp s = (i : Int) := h2
  omega
theorem dec_eq {d v : List UInt8} (hd : d.length = 36) : ((bif ((rsLk (synL d v) : Nat) : Int) == 1 then d.set ((rsLp (synL d v)).toNat) ((d.getD ((rsLp (synL d v)).toNat) 0) ^^^ (rsLv (synL d v))) else d).drop 4).take 32 = decL d v := by
  unfold decL rsLk rsLp rsLv
  cases ((locF (Go.Proofs.Ytdglhppcfdpcaaa.co (synL d v))).kind : Int) == 1
  · rw [cond_false, cond_false, List.take_of_length_le (by rw [List.length_drop, hd]; decide)]
  · rw [cond_true, cond_true, List.take_of_length_le (by rw [List.length_drop, List.length_set, hd]; decide)]
set_option maxRecDepth 100000 in
theorem xrsdec (cb g : Nat) (u : Value) (d v : List UInt8) (hd : d.length = 36) (hv : v.length = 3) : Con Try.prog 92 #[pt cb 0, .agg (rB 36 d).toArray, .agg (rB 3 v).toArray] [ob cb #[pt g 0, u] 128, ob g (rB 255 exB ++ rN 256 logL).toArray 131, .p (SqE eB u genL)] [] (fun _ => []) (fun _ => .tuple #[.agg (rB 32 (decL d v)).toArray, .agg #[i6 ((rsLk (synL d v) : Nat) : Int), i6 (rsLp (synL d v)), u1 ((rsLv (synL d v)).toNat : Int)]]) := by
 have hf := Try.func92
 have hE := enters_of hf (by kernel_rfl) rfl
 refine Con.ro 2 rfl (fun bq2 hq2 => ?_) hE
 refine fE hf (fun w cs => ?_) hE
 refine rr (fun _ => []) (fun q1 => [(4, pt ((q1 0).blk 0) 0), (5, pt ((q1 1).blk 0) 0), (6, pt ((q1 2).blk 0) 0), (7, pt ((q1 3).blk 0) 0)]) [] (fun q1 L => L ++ [ob ((q1 0).blk 0) (rB 36 d).toArray 172, ob ((q1 1).blk 0) (rB 3 v).toArray 93, ob ((q1 2).blk 0) (rB 32 (List.replicate 32 0)).toArray 98, ob ((q1 3).blk 0) #[i6 0, i6 0, u1 0] 169]) fun q1 => ?_
 refine rr (fun q2 => [(2, .l 3), (3, .l 4), (4, .c [0, 1, 2] [] (Con.at (rd' := [ob cb #[pt g 0, u] 128, ob g (rB 255 exB ++ rN 256 logL).toArray 131, .c bq2]) (xrssyn cb g u d v (by first | rfl | (simp only [List.length_set, List.length_append, List.length_replicate, List.length_cons, List.length_nil, List.length_map, List.length_range, List.length_take, List.length_drop, synL_len, hd, hv]; done) | (simp only [List.length_set, List.length_append, List.length_replicate, List.length_cons, List.length_nil, List.length_map, List.length_range, List.length_take, List.length_drop, synL_len, hd, hv]; omega)) (by first | rfl | (simp only [List.length_set, List.length_append, List.length_replicate, List.length_cons, List.length_nil, List.length_map, List.length_range, List.length_take, List.length_drop, synL_len, hd, hv]; done) | (simp only [List.length_set, List.length_append, List.length_replicate, List.length_cons, List.length_nil, List.length_map, List.length_range, List.length_take, List.length_drop, synL_len, hd, hv]; omega))) (atS (atS (atC hq2 (fun _ h => h)))))), (5, .c [0, 1, 2] [] (Con.at (rd' := [ob cb #[pt g 0, u] 128, ob g (rB 255 exB ++ rN 256 logL).toArray 131, .c bq2]) (xrsloc cb g u (synL d v) (by first | rfl | (simp only [List.length_set, List.length_append, List.length_replicate, List.length_cons, List.length_nil, List.length_map, List.length_range, List.length_take, List.length_drop, synL_len, hd, hv]; done) | (simp only [List.length_set, List.length_append, List.length_replicate, List.length_cons, List.length_nil, List.length_map, List.length_range, List.length_take, List.length_drop, synL_len, hd, hv]; omega))) (atS (atS (atC hq2 (fun _ h => h)))))), (7, .s 7)]) (fun q2 => [(8, pt ((q2 6).blk 0) 0)]) [] (fun q2 L => L ++ [ob ((q2 6).blk 0) #[i6 ((rsLk (synL d v) : Nat) : Int), i6 (rsLp (synL d v)), u1 ((rsLv (synL d v)).toNat : Int)] 169]) fun q2 => ?_
 refine r0 [(1, .l 7)] [(17, .bool (((rsLk (synL d v) : Nat) : Int) == 1))] [] ?_
 refine cJ (((rsLk (synL d v) : Nat) : Int) == 1) (fun _ => []) (fun c => [ob cb #[pt g 0, u] 128, ob g (rB 255 exB ++ rN 256 logL).toArray 131, .c bq2, ob ((q1 0).blk 0) (rB 36 (bif c then d.set ((rsLp (synL d v)).toNat) ((d.getD ((rsLp (synL d v)).toNat) 0) ^^^ (rsLv (synL d v))) else d)).toArray 172, ob ((q1 1).blk 0) (rB 3 v).toArray 93, ob ((q1 2).blk 0) (rB 32 (List.replicate 32 0)).toArray 98, ob ((q1 3).blk 0) #[i6 0, i6 0, u1 0] 169, ob ((q2 6).blk 0) #[i6 ((rsLk (synL d v) : Nat) : Int), i6 (rsLp (synL d v)), u1 ((rsLv (synL d v)).toNat : Int)] 169]) (fun h4 => ?_) (fun h4 => ?_) ?_
 ·have dh4 := eq_of_beq h4
  have hfx := fx_place (by assumption)
  refine rr (fun _ => [(1, .m (lt 7 ((q2 6).blk 0) 1 #[i6 ((rsLk (synL d v) : Nat) : Int), i6 (rsLp (synL d v)), u1 ((rsLv (synL d v)).toNat : Int)] 169 (congrArg (fun z : Int => some (Value.int .i64 z)) (fx_place (by assumption)).2))), (2, iA 172 .i64 ((q1 0).blk 0) 0 36 1 ((rsLp (synL d v)).toNat)), (3, rD 3 ((q1 0).blk 0) ((rsLp (synL d v)).toNat) 172 (rB 36 d) (rB_get (by omega))), (5, .l 7), (6, .t (tb (a := u1 ((d.getD ((rsLp (synL d v)).toNat) 0).toNat : Int)) (b := u1 ((rsLv (synL d v)).toNat : Int)) fun _ _ _ _ => bin_xor_u8 (d.getD ((rsLp (synL d v)).toNat) 0) ((rsLv (synL d v))))), (7, iA 172 .i64 ((q1 0).blk 0) 0 36 1 ((rsLp (synL d v)).toNat)), (8, wD 3 ((q1 0).blk 0) ((rsLp (synL d v)).toNat) 172 (u1 (((d.getD ((rsLp (synL d v)).toNat) 0) ^^^ (rsLv (synL d v))).toNat : Int)) (rB 36 d) (rB 36 (d.set ((rsLp (synL d v)).toNat) ((d.getD ((rsLp (synL d v)).toNat) 0) ^^^ (rsLv (synL d v))))) (rL_lt (by omega)) (rB_set hd))]) (fun _ => []) [] (fun _ L => L.set 3 (ob ((q1 0).blk 0) (rB 36 (d.set ((rsLp (synL d v)).toNat) ((d.getD ((rsLp (synL d v)).toNat) 0) ^^^ (rsLv (synL d v))))).toArray 172)) fun q5 => ?_
  exact cm (by kernel_rfl) [0, 1, 2, 3, 4, 5, 6, 7] (by kernel_rfl)
 ·have dh4 := ne_of_beq_false h4
  exact cm (by kernel_rfl) [0, 1, 2, 3, 4, 5, 6, 7] (by kernel_rfl)
 refine rr (fun _ => [(0, aL 172 ((q1 0).blk 0) 36 1 4), (1, .t (tv (Instr.arrayAt 98 (.slice (some ⟨(q1 0).blk 0, 4 * 1, none⟩) 32 32)) (fun _ => run_arrayAt _ 98 5 32 _ _ _ Try.underlying98 (by omega)))), (2, .m (lg 3 ((q1 0).blk 0) (4 * 1) (rB 36 (bif ((rsLk (synL d v) : Nat) : Int) == 1 then d.set ((rsLp (synL d v)).toNat) ((d.getD ((rsLp (synL d v)).toNat) 0) ^^^ (rsLv (synL d v))) else d)).toArray 172 (rB 32 (((bif ((rsLk (synL d v) : Nat) : Int) == 1 then d.set ((rsLp (synL d v)).toNat) ((d.getD ((rsLp (synL d v)).toNat) 0) ^^^ (rsLv (synL d v))) else d).drop 4).take 32)) (rL_subrow (fun _ => rfl) (lenB (by rw [List.length_set]; exact hd) hd) (by omega)))), (3, .l 7), (4, .s 5), (5, .s 6)]) (fun _ => []) [] (fun _ L => (L.set 5 (ob ((q1 2).blk 0) (rB 32 (((bif ((rsLk (synL d v) : Nat) : Int) == 1 then d.set ((rsLp (synL d v)).toNat) ((d.getD ((rsLp (synL d v)).toNat) 0) ^^^ (rsLv (synL d v))) else d).drop 4).take 32)).toArray 98)).set 6 (ob ((q1 3).blk 0) #[i6 ((rsLk (synL d v) : Nat) : Int), i6 (rsLp (synL d v)), u1 ((rsLv (synL d v)).toNat : Int)] 169)) fun q6 => ?_
 exact lfV (.tuple #[.agg (rB 32 (((bif ((rsLk (synL d v) : Nat) : Int) == 1 then d.set ((rsLp (synL d v)).toNat) ((d.getD ((rsLp (synL d v)).toNat) 0) ^^^ (rsLv (synL d v))) else d).drop 4).take 32)).toArray, .agg #[i6 ((rsLk (synL d v) : Nat) : Int), i6 (rsLp (synL d v)), u1 ((rsLv (synL d v)).toNat : Int)]]) Env.zero (by rw [dec_eq hd]) [] [(0, 0), (1, 1), (2, 2)] [5, 6]
end Go.Proofs.Ytdglhppcfdpcaaa.E
