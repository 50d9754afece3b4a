/- Several texts in one: Hj Hk. -/
import Derived.Test.YtdglhppcfdpcaaaHaA
import Derived.Test.YtdglhppcfdpcaaaGz
namespace Go.Proofs.Ytdglhppcfdpcaaa.E
open Go Go.RowKit Go.Shelf
set_option linter.unusedVariables false
set_option linter.unusedSimpArgs false
attribute [local irreducible] pc ones
set_option maxRecDepth 100000 in
theorem xhput (g i : Nat) (x : UInt8) (cl : List UInt8) (ts : List Int) (hi : i < 74) (hc : cl.length = 74) (ht : ts.length = 256) : Con Try.prog 54 #[pt g 0, i6 (i : Int), u1 (x.toNat : Int)] [ob g (rB 74 cl ++ rI 256 ts).toArray 117] [0] (fun _ => [ob g (rB 74 (cl.set i x) ++ rI 256 (ts.set x.toNat (i : Int))).toArray 117]) (fun _ => .tuple #[]) := by
 have hx := x.toNat_lt
 have hf := Try.func54
 have hE := enters_of hf (by kernel_rfl) rfl
 refine fE hf (fun w cs => ?_) hE
 refine rr (fun _ => [(0, .v (pt g 0)), (1, .v (i6 (i : Int))), (2, .v (pt g 0)), (3, .v (u1 (x.toNat : Int))), (4, .v (u1 (x.toNat : Int))), (5, .v (i6 (i : Int))), (6, .v (pt g 0)), (7, .v (pt g 0)), (8, iA 114 .i64 g 0 74 1 i), (9, wM (A := []) (R := rB 74 cl) (C := (rI 256 ts : List Value)) 0 g i 117 (u1 (x.toNat : Int)) (rB 74 cl ++ rI 256 ts) (rB 74 (cl.set i x) ++ rI 256 ts) rfl rfl rfl (rL_lt (by omega)) (rB_set hc)), (10, .v (pt g 0)), (11, .v (pt g 74)), (12, iA 115 .u8 g 74 256 1 x.toNat), (13, wM (A := (rB 74 (cl.set i x) : List Value)) (R := rI 256 ts) (C := []) 0 g x.toNat 117 (i6 (i : Int)) (rB 74 (cl.set i x) ++ rI 256 ts) (rB 74 (cl.set i x) ++ rI 256 (ts.set x.toNat (i : Int))) (by rw [List.append_nil]) (by rw [List.append_nil]) rB_ln (rL_lt (by omega)) (rI_set ht))]) (fun _ => []) [] (fun _ L => L.set 0 (ob g (rB 74 (cl.set i x) ++ rI 256 (ts.set x.toNat (i : Int))).toArray 117)) fun q1 => ?_
 exact lfN Env.zero [0] [] []
/-- The columns of the ones, summed up. -/
def xc (cl : List UInt8) (d : Nat) : Nat → UInt8
  | 0 => 0
  | k + 1 => xc cl d k ^^^ cl.getD ((ones d).getD k 0) 0
theorem ones_lt {d j : Nat} (h : j < (ones d).length) : (ones d).getD j 0 < 64 := by
  have h1 : (ones d).getD j 0 ∈ ones d := by
    rw [List.getD_eq_getElem?_getD, List.getElem?_eq_getElem h]
    exact List.getElem_mem h
  unfold ones at h1 ⊢
  have := (onesTo_mem 64 0 d _ h1).2.1
  omega
def xhchk_0 (d : Nat) (a : Int) (p : Int) (cl : List UInt8) : UInt8 := (bif (p % 2) == 1 then (bif (a % 2) == 1 then (xc cl d ((ones d).length)) ^^^ (cl.getD 72 0) else (xc cl d ((ones d).length))) ^^^ (cl.getD 73 0) else (bif (a % 2) == 1 then (xc cl d ((ones d).length)) ^^^ (cl.getD 72 0) else (xc cl d ((ones d).length))))
set_option maxRecDepth 100000 in
theorem xhchk (g d : Nat) (a p : Int) (cl : List UInt8) (ts : List Int) (hd : d < 18446744073709551616) (hc : cl.length = 74) (ht : ts.length = 256) : Con Try.prog 35 #[pt g 0, u6 (d : Int), i6 a, i6 p] [ob g (rB 74 cl ++ rI 256 ts).toArray 117] [] (fun _ => []) (fun _ => u1 ((xhchk_0 d a p cl).toNat : Int)) := by
 have hf := Try.func35
 have hE := enters_of hf (by kernel_rfl) rfl
 refine fE hf (fun w cs => ?_) hE
 refine rr (fun _ => []) (fun q1 => [(4, pt ((q1 0).blk 0) 0), (8, u1 0)]) [] (fun q1 L => L ++ [ob ((q1 0).blk 0) #[pt g 0] 76]) fun q1 => ?_
 refine rr (fun _ => [(1, .s 2)]) (fun q2 => [(9, pt ((q2 0).blk 0) 0)]) [] (fun q2 L => L ++ [ob ((q2 0).blk 0) #[u1 0] 5]) fun q2 => ?_
 refine rr (fun _ => [(1, .c [] [3] (xones d))]) (fun q3 => [(12, .func (.func 85) #[] #[pt (((q3 1).blk 0)) 0])]) [] (fun q3 L => L ++ [ob ((q3 1).blk 0) #[u6 (d : Int)] 87]) fun q3 => ?_
 refine rfG0 (encs := fun (i : Nat) => #[i6 ((i : Nat) : Int)]) (xs := ones d) (XO := [(((q3 1).blk 0), .cells #[u6 (d : Int)] 87 (0, 0))]) (KO := []) (xones_it ((q3 1).blk 0) d (by omega)) (enters_of Try.func85 (by kernel_rfl) rfl) (fun j => j ≤ (ones d).length) (fun j L => L.set 2 (ob ((q2 0).blk 0) #[u1 ((xc cl d j).toNat : Int)] 5)) [ob g (rB 74 cl ++ rI 256 ts).toArray 117, ob ((q1 0).blk 0) #[pt g 0] 76, ob ((q2 0).blk 0) #[u1 0] 5] [0, 1, 2, 3] [3] [] (by omega) (by kernel_rfl) (fun lR j xE R1 W1 hxE hk5 => ?_) (fun D4  hk5 => ?_)
 ·obtain ⟨hkb6, rfl⟩ := list_some 0 hxE
  have hol := ones_lt hkb6
  refine r0 [] [(10, i6 (((ones d).getD j 0 : Nat) : Int))] [] ?_
  refine ag [] (fun R2 W2 => ?_)
  refine rr (fun _ => [(0, .l 2), (1, .l 1), (5, iA 114 .i64 g 0 74 1 ((ones d).getD j 0)), (6, rM (A := []) (R := rB 74 cl) (C := (rI 256 ts : List Value)) 0 g ((ones d).getD j 0) 117 (rB 74 cl ++ rI 256 ts) rfl rfl (rB_get (by omega))), (7, .t (tb (a := u1 ((xc cl d j).toNat : Int)) (b := u1 ((cl.getD ((ones d).getD j 0) 0).toNat : Int)) fun _ _ _ _ => bin_xor_u8 ((xc cl d j)) (cl.getD ((ones d).getD j 0) 0))), (8, .s 2)]) (fun _ => []) [] (fun _ L => L.set 2 (ob ((q2 0).blk 0) #[u1 (((xc cl d j) ^^^ (cl.getD ((ones d).getD j 0) 0)).toNat : Int)] 5)) fun q8 => ?_
  exact ne _ ⟨(by omega), rfl⟩ [0, 1, 2] (by kernel_rfl)
 refine r0 [(1, .t (tv (sBin .and 3 (.tmp 22) (.const (i6 1)) (i6 a) (i6 1)) (fun _ => bin_mask_i64 a 1 2 (by decide) (by decide) (by decide) (by decide))))] [(24, .bool ((a % 2) == 1))] [] ?_
 refine cJ ((a % 2) == 1) (fun _ => []) (fun c => [ob g (rB 74 cl ++ rI 256 ts).toArray 117, ob ((q1 0).blk 0) #[pt g 0] 76, ob ((q2 0).blk 0) #[u1 ((bif c then (xc cl d ((ones d).length)) ^^^ (cl.getD 72 0) else (xc cl d ((ones d).length))).toNat : Int)] 5]) (fun h10 => ?_) (fun h10 => ?_) ?_
 ·have dh10 := eq_of_beq h10
  refine rr (fun _ => [(0, .l 2), (1, .l 1), (5, .l 0), (6, .t (tb (a := u1 ((xc cl d ((ones d).length)).toNat : Int)) (b := u1 ((cl.getD 72 0).toNat : Int)) fun _ _ _ _ => bin_xor_u8 ((xc cl d ((ones d).length))) (cl.getD 72 0))), (7, .s 2)]) (fun _ => []) [] (fun _ L => L.set 2 (ob ((q2 0).blk 0) #[u1 (((xc cl d ((ones d).length)) ^^^ (cl.getD 72 0)).toNat : Int)] 5)) fun q11 => ?_
  exact cm (by kernel_rfl) [0, 1, 2] (by kernel_rfl)
 ·have dh10 := ne_of_beq_false h10
  exact cm (by kernel_rfl) [0, 1, 2] (by kernel_rfl)
 refine r0 [(1, .t (tv (sBin .and 3 (.tmp 32) (.const (i6 1)) (i6 p) (i6 1)) (fun _ => bin_mask_i64 p 1 2 (by decide) (by decide) (by decide) (by decide))))] [(34, .bool ((p % 2) == 1))] [] ?_
 refine cJ ((p % 2) == 1) (fun _ => []) (fun c => [ob g (rB 74 cl ++ rI 256 ts).toArray 117, ob ((q1 0).blk 0) #[pt g 0] 76, ob ((q2 0).blk 0) #[u1 ((bif c then (bif (a % 2) == 1 then (xc cl d ((ones d).length)) ^^^ (cl.getD 72 0) else (xc cl d ((ones d).length))) ^^^ (cl.getD 73 0) else (bif (a % 2) == 1 then (xc cl d ((ones d).length)) ^^^ (cl.getD 72 0) else (xc cl d ((ones d).length)))).toNat : Int)] 5]) (fun h13 => ?_) (fun h13 => ?_) ?_
 ·have dh13 := eq_of_beq h13
  refine rr (fun _ => [(0, .l 2), (1, .l 1), (5, .l 0), (6, .t (tb (a := u1 ((bif (a % 2) == 1 then (xc cl d ((ones d).length)) ^^^ (cl.getD 72 0) else (xc cl d ((ones d).length))).toNat : Int)) (b := u1 ((cl.getD 73 0).toNat : Int)) fun _ _ _ _ => bin_xor_u8 ((bif (a % 2) == 1 then (xc cl d ((ones d).length)) ^^^ (cl.getD 72 0) else (xc cl d ((ones d).length)))) (cl.getD 73 0))), (7, .s 2)]) (fun _ => []) [] (fun _ L => L.set 2 (ob ((q2 0).blk 0) #[u1 (((bif (a % 2) == 1 then (xc cl d ((ones d).length)) ^^^ (cl.getD 72 0) else (xc cl d ((ones d).length))) ^^^ (cl.getD 73 0)).toNat : Int)] 5)) fun q14 => ?_
  exact cm (by kernel_rfl) [0, 1, 2] (by kernel_rfl)
 ·have dh13 := ne_of_beq_false h13
  exact cm (by kernel_rfl) [0, 1, 2] (by kernel_rfl)
 refine r0 [(0, .l 2)] [(8, u1 ((bif (p % 2) == 1 then (bif (a % 2) == 1 then (xc cl d ((ones d).length)) ^^^ (cl.getD 72 0) else (xc cl d ((ones d).length))) ^^^ (cl.getD 73 0) else (bif (a % 2) == 1 then (xc cl d ((ones d).length)) ^^^ (cl.getD 72 0) else (xc cl d ((ones d).length)))).toNat : Int))] [8] ?_
 exact lf Env.zero [] [(0, 0)] []
set_option maxRecDepth 100000 in
theorem xhsyn (g d : Nat) (k : UInt8) (a p : Int) (cl : List UInt8) (ts : List Int) (hd : d < 18446744073709551616) (hc : cl.length = 74) (ht : ts.length = 256) : Con Try.prog 100 #[pt g 0, u6 (d : Int), u1 (k.toNat : Int), i6 a, i6 p] [ob g (rB 74 cl ++ rI 256 ts).toArray 117] [] (fun _ => []) (fun _ => u1 (((xhchk_0 d a p cl) ^^^ k).toNat : Int)) := by
 have hf := Try.func100
 have hE := enters_of hf (by kernel_rfl) rfl
 refine fE hf (fun w cs => ?_) hE
 refine r0 [] [(10, u1 0)] [] ?_
 refine r0 [(4, .c [0] [] (xhchk g d a p cl ts (by omega) (by first | rfl | (simp only [List.length_set, List.length_append, List.length_replicate, List.length_cons, List.length_nil, List.length_map, List.length_range, List.length_take, List.length_drop, hc, ht]; done) | (simp only [List.length_set, List.length_append, List.length_replicate, List.length_cons, List.length_nil, List.length_map, List.length_range, List.length_take, List.length_drop, hc, ht]; omega)) (by first | rfl | (simp only [List.length_set, List.length_append, List.length_replicate, List.length_cons, List.length_nil, List.length_map, List.length_range, List.length_take, List.length_drop, hc, ht]; done) | (simp only [List.length_set, List.length_append, List.length_replicate, List.length_cons, List.length_nil, List.length_map, List.length_range, List.length_take, List.length_drop, hc, ht]; omega)))), (6, .t (tb (a := u1 ((xhchk_0 d a p cl).toNat : Int)) (b := u1 (k.toNat : Int)) fun _ _ _ _ => bin_xor_u8 ((xhchk_0 d a p cl)) (k)))] [(10, u1 (((xhchk_0 d a p cl) ^^^ k).toNat : Int))] [10] ?_
 exact lf Env.zero [] [(0, 0)] []
def xhcla_0 (k : UInt8) (ts : List Int) : Int := (bif (k.toNat : Int) == 0 then 0 else (bif (ts.getD k.toNat 0) == (-1) then 4 else (bif (ts.getD k.toNat 0) == 72 then 3 else (bif (ts.getD k.toNat 0) == 73 then 2 else 1))))
def xhcla_1 (k : UInt8) (ts : List Int) : Int := (bif (k.toNat : Int) == 0 then (-1) else (bif (ts.getD k.toNat 0) == (-1) then (-1) else (bif (ts.getD k.toNat 0) == 72 then (-1) else (bif (ts.getD k.toNat 0) == 73 then (-1) else (ts.getD k.toNat 0)))))
set_option maxRecDepth 100000 in
theorem xhcla (g : Nat) (k : UInt8) (cl : List UInt8) (ts : List Int) (hc : cl.length = 74) (ht : ts.length = 256) : Con Try.prog 99 #[pt g 0, u1 (k.toNat : Int)] [ob g (rB 74 cl ++ rI 256 ts).toArray 117] [] (fun _ => []) (fun _ => .tuple #[i6 (xhcla_0 k ts), i6 (xhcla_1 k ts)]) := by
 have hk := k.toNat_lt
 have hf := Try.func99
 have hE := enters_of hf (by kernel_rfl) rfl
 refine fE hf (fun w cs => ?_) hE
 refine r0 [] [(4, i6 0), (5, i6 0)] [] ?_
 refine r0 [] [(8, .bool ((k.toNat : Int) == 0))] [] ?_
 refine cEq (k.toNat : Int) 0 (fun h3 dh3 => ?_) fun h3 dh3 => ?_
 ·refine r0 [] [(4, i6 0), (5, i6 (-1))] [4, 5] ?_
  exact lfV (.tuple #[i6 0, i6 (-1)]) Env.zero (by ((try simp only [xhcla_0, xhcla_1]); (repeat (first | rw [h3] | rw [cond_true] | rw [cond_false]))) <;> rfl) [] [(0, 0)] []
 refine r0 [(4, iA 115 .u8 g 74 256 1 k.toNat), (5, rM (A := (rB 74 cl : List Value)) (R := rI 256 ts) (C := []) 0 g k.toNat 117 (rB 74 cl ++ rI 256 ts) (by rw [List.append_nil]) rB_ln (rI_get (by omega)))] [(6, i6 (ts.getD k.toNat 0))] [] ?_
 refine r0 [] [(16, .bool ((ts.getD k.toNat 0) == (-1)))] [] ?_
 refine cEq (ts.getD k.toNat 0) (-1) (fun h7 dh7 => ?_) fun h7 dh7 => ?_
 ·refine r0 [] [(4, i6 4), (5, i6 (-1))] [4, 5] ?_
  exact lfV (.tuple #[i6 4, i6 (-1)]) Env.zero (by ((try simp only [xhcla_0, xhcla_1]); (repeat (first | rw [h3] | rw [h7] | rw [cond_true] | rw [cond_false]))) <;> rfl) [] [(0, 0)] []
 refine r0 [] [(19, .bool ((ts.getD k.toNat 0) == 72))] [] ?_
 refine cEq (ts.getD k.toNat 0) 72 (fun h10 dh10 => ?_) fun h10 dh10 => ?_
 ·refine r0 [] [(4, i6 3), (5, i6 (-1))] [4, 5] ?_
  exact lfV (.tuple #[i6 3, i6 (-1)]) Env.zero (by ((try simp only [xhcla_0, xhcla_1]); (repeat (first | rw [h3] | rw [h7] | rw [h10] | rw [cond_true] | rw [cond_false]))) <;> rfl) [] [(0, 0)] []
 refine r0 [] [(22, .bool ((ts.getD k.toNat 0) == 73))] [] ?_
 refine cEq (ts.getD k.toNat 0) 73 (fun h13 dh13 => ?_) fun h13 dh13 => ?_
 ·refine r0 [] [(4, i6 2), (5, i6 (-1))] [4, 5] ?_
  exact lfV (.tuple #[i6 2, i6 (-1)]) Env.zero (by ((try simp only [xhcla_0, xhcla_1]); (repeat (first | rw [h3] | rw [h7] | rw [h10] | rw [h13] | rw [cond_true] | rw [cond_false]))) <;> rfl) [] [(0, 0)] []
 refine r0 [] [(4, i6 1), (5, i6 (ts.getD k.toNat 0))] [4, 5] ?_
 exact lfV (.tuple #[i6 1, i6 (ts.getD k.toNat 0)]) Env.zero (by ((try simp only [xhcla_0, xhcla_1]); (repeat (first | rw [h3] | rw [h7] | rw [h10] | rw [h13] | rw [cond_true] | rw [cond_false]))) <;> rfl) [] [(0, 0)] []
theorem hb_of {ts : List Int} {K : UInt8} (hp : ∀ k : UInt8, (xhcla_0 k ts == 1) = true → 0 ≤ xhcla_1 k ts) (h : ((xhcla_0 K ts == 1) && decide (xhcla_1 K ts < 64)) = true) : 0 ≤ xhcla_1 K ts ∧ xhcla_1 K ts < 64 ∧ 1 * 2 ^ (xhcla_1 K ts).toNat < 18446744073709551616 := by
  rw [Bool.and_eq_true] at h
  have h1 := hp K h.1
  have h2 := of_decide_eq_true h.2
  refine ⟨h1, h2, ?_⟩
  rw [Nat.one_mul]
  exact Nat.lt_of_lt_of_le (Nat.pow_lt_pow_right (a := 2) (by omega) (show (xhcla_1 K ts).toNat < 64 by omega)) (by decide)
def xhdec_0 (d : Nat) (k : UInt8) (a : Int) (cl : List UInt8) (ts : List Int) : Nat := (bif ((xhcla_0 ((xhchk_0 d a 0 cl) ^^^ k) ts) == 1) && (decide ((xhcla_1 ((xhchk_0 d a 0 cl) ^^^ k) ts) < 64)) then d ^^^ (1 * 2 ^ (xhcla_1 (xhchk_0 d a 0 cl ^^^ k) ts).toNat) else d)
set_option maxRecDepth 100000 in
theorem xhdec (g d : Nat) (k : UInt8) (a : Int) (cl : List UInt8) (ts : List Int) (hd : d < 18446744073709551616) (hc : cl.length = 74) (ht : ts.length = 256) (hp : ∀ k : UInt8, (xhcla_0 k ts == 1) = true → 0 ≤ xhcla_1 k ts) : Con Try.prog 90 #[pt g 0, u6 (d : Int), u1 (k.toNat : Int), i6 a] [ob g (rB 74 cl ++ rI 256 ts).toArray 117] [] (fun _ => []) (fun _ => .tuple #[u6 (((xhdec_0 d k a cl ts) : Nat) : Int), i6 (xhcla_0 ((xhchk_0 d a 0 cl) ^^^ k) ts), i6 (xhcla_1 ((xhchk_0 d a 0 cl) ^^^ k) ts)]) := by
 have hf := Try.func90
 have hE := enters_of hf (by kernel_rfl) rfl
 refine fE hf (fun w cs => ?_) hE
 refine r0 [] [(8, u6 0), (9, i6 0), (10, i6 0)] [] ?_
 refine r0 [(0, .v (pt g 0)), (1, .v (pt g 0)), (2, .v (u6 (d : Int))), (3, .v (u1 (k.toNat : Int))), (4, .v (i6 a)), (5, .c [0] [] (xhsyn g d k a 0 cl ts (by omega) (by first | rfl | (simp only [List.length_set, List.length_append, List.length_replicate, List.length_cons, List.length_nil, List.length_map, List.length_range, List.length_take, List.length_drop, hc, ht]; done) | (simp only [List.length_set, List.length_append, List.length_replicate, List.length_cons, List.length_nil, List.length_map, List.length_range, List.length_take, List.length_drop, hc, ht]; omega)) (by first | rfl | (simp only [List.length_set, List.length_append, List.length_replicate, List.length_cons, List.length_nil, List.length_map, List.length_range, List.length_take, List.length_drop, hc, ht]; done) | (simp only [List.length_set, List.length_append, List.length_replicate, List.length_cons, List.length_nil, List.length_map, List.length_range, List.length_take, List.length_drop, hc, ht]; omega)))), (6, .c [0] [] (xhcla g ((xhchk_0 d a 0 cl) ^^^ k) cl ts (by first | rfl | (simp only [List.length_set, List.length_append, List.length_replicate, List.length_cons, List.length_nil, List.length_map, List.length_range, List.length_take, List.length_drop, hc, ht]; done) | (simp only [List.length_set, List.length_append, List.length_replicate, List.length_cons, List.length_nil, List.length_map, List.length_range, List.length_take, List.length_drop, hc, ht]; omega)) (by first | rfl | (simp only [List.length_set, List.length_append, List.length_replicate, List.length_cons, List.length_nil, List.length_map, List.length_range, List.length_take, List.length_drop, hc, ht]; done) | (simp only [List.length_set, List.length_append, List.length_replicate, List.length_cons, List.length_nil, List.length_map, List.length_range, List.length_take, List.length_drop, hc, ht]; omega)))), (7, .v (.tuple #[i6 (xhcla_0 ((xhchk_0 d a 0 cl) ^^^ k) ts), i6 (xhcla_1 ((xhchk_0 d a 0 cl) ^^^ k) ts)])), (8, .v (i6 (xhcla_0 ((xhchk_0 d a 0 cl) ^^^ k) ts))), (9, .v (i6 (xhcla_1 ((xhchk_0 d a 0 cl) ^^^ k) ts))), (10, .v (i6 (xhcla_0 ((xhchk_0 d a 0 cl) ^^^ k) ts))), (11, .v (i6 (xhcla_1 ((xhchk_0 d a 0 cl) ^^^ k) ts)))] [(9, i6 (xhcla_0 ((xhchk_0 d a 0 cl) ^^^ k) ts)), (10, i6 (xhcla_1 ((xhchk_0 d a 0 cl) ^^^ k) ts))] [9, 10] ?_
 refine r0 [] [(26, .bool (((xhcla_0 ((xhchk_0 d a 0 cl) ^^^ k) ts) == 1) && (decide ((xhcla_1 ((xhchk_0 d a 0 cl) ^^^ k) ts) < 64))))] [] ?_
 refine cJ (((xhcla_0 ((xhchk_0 d a 0 cl) ^^^ k) ts) == 1) && (decide ((xhcla_1 ((xhchk_0 d a 0 cl) ^^^ k) ts) < 64))) (fun c => [(1, u6 (((bif c then d ^^^ (1 * 2 ^ (xhcla_1 (xhchk_0 d a 0 cl ^^^ k) ts).toNat) else d) : Nat) : Int))]) (fun _ => [ob g (rB 74 cl ++ rI 256 ts).toArray 117]) (fun h4 => ?_) (fun h4 => ?_) ?_
 ·have hb := hb_of hp h4
  refine r0 [(1, .t (tk (show i6 (xhcla_1 ((xhchk_0 d a 0 cl) ^^^ k) ts) = i6 (((xhcla_1 (xhchk_0 d a 0 cl ^^^ k) ts).toNat : Nat) : Int) from congrArg (Value.int .i64) (by omega)))), (2, .t (tv (convert 3 112 (i6 (((xhcla_1 (xhchk_0 d a 0 cl ^^^ k) ts).toNat : Nat) : Int))) (fun _ => cvt_i64u Try.underlying3 Try.underlying112 (by omega)))), (3, .t (tv (sBin .shl 87 (.const (u6 1)) (.tmp 29) (u6 1) (u6 (((xhcla_1 (xhchk_0 d a 0 cl ^^^ k) ts).toNat : Nat) : Int))) (fun _ => bin_shl_u64 (a := 1) (xhcla_1 (xhchk_0 d a 0 cl ^^^ k) ts).toNat (by omega) hb.2.2))), (4, .t (tv (sBin .xor 87 (.tmp 27) (.tmp 30) (u6 (d : Int)) (u6 ((1 * 2 ^ (xhcla_1 (xhchk_0 d a 0 cl ^^^ k) ts).toNat : Nat) : Int))) (fun _ => bin_xor_u64 hd hb.2.2)))] [(1, u6 ((d ^^^ (1 * 2 ^ (xhcla_1 (xhchk_0 d a 0 cl ^^^ k) ts).toNat) : Nat) : Int))] [1] ?_
  exact cm (by kernel_rfl) [0] (by kernel_rfl)
 ·exact cm (by kernel_rfl) [0] (by kernel_rfl)
 refine r0 [] [(8, u6 (((bif ((xhcla_0 ((xhchk_0 d a 0 cl) ^^^ k) ts) == 1) && (decide ((xhcla_1 ((xhchk_0 d a 0 cl) ^^^ k) ts) < 64)) then d ^^^ (1 * 2 ^ (xhcla_1 (xhchk_0 d a 0 cl ^^^ k) ts).toNat) else d) : Nat) : Int)), (9, i6 (xhcla_0 ((xhchk_0 d a 0 cl) ^^^ k) ts)), (10, i6 (xhcla_1 ((xhchk_0 d a 0 cl) ^^^ k) ts))] [8, 9, 10] ?_
 exact lf Env.zero [] [(0, 0)] []
end Go.Proofs.Ytdglhppcfdpcaaa.E
namespace Go.Proofs.Ytdglhppcfdpcaaa.E
open Go Go.RowKit Go.Shelf
set_option linter.unusedVariables false
set_option linter.unusedSimpArgs false
def htA : Nat → List Int
  | 0 => List.replicate 256 0
  | k + 1 => (htA k).set k (-1)
def hcB : Nat → List UInt8
  | 0 => List.replicate 74 0
  | k + 1 => (hcB k).set (64 + k) (UInt8.ofNat (1 * 2 ^ k))
def htB : Nat → List Int
  | 0 => htA 256
  | k + 1 => (htB k).set (UInt8.ofNat (1 * 2 ^ k)).toNat ((64 + k : Nat) : Int)
def hcC : Nat → List UInt8
  | 0 => hcB 8
  | k + 1 => (hcC k).set k (UInt8.ofNat ((ch 3 256).getD k 0))
def htC : Nat → List Int
  | 0 => htB 8
  | k + 1 => (htC k).set (UInt8.ofNat ((ch 3 256).getD k 0)).toNat ((k : Nat) : Int)
/-- Where the words of five ones go. -/
def p5 (k : Nat) : Nat := bif decide (k < 8) then 56 + k else 64 + k
def hcD : Nat → List UInt8
  | 0 => hcC 56
  | k + 1 => (hcD k).set (p5 k) (UInt8.ofNat ((ch 5 256).getD k 0))
def htD : Nat → List Int
  | 0 => htC 56
  | k + 1 => (htD k).set (UInt8.ofNat ((ch 5 256).getD k 0)).toNat ((p5 k : Nat) : Int)
theorem htA_len : ∀ k, (htA k).length = 256
  | 0 => List.length_replicate ..
  | k + 1 => by rw [htA, List.length_set]; exact htA_len k
theorem hcB_len : ∀ k, (hcB k).length = 74
  | 0 => List.length_replicate ..
  | k + 1 => by rw [hcB, List.length_set]; exact hcB_len k
theorem htB_len : ∀ k, (htB k).length = 256
  | 0 => htA_len 256
  | k + 1 => by rw [htB, List.length_set]; exact htB_len k
theorem hcC_len : ∀ k, (hcC k).length = 74
  | 0 => hcB_len 8
  | k + 1 => by rw [hcC, List.length_set]; exact hcC_len k
theorem htC_len : ∀ k, (htC k).length = 256
  | 0 => htB_len 8
  | k + 1 => by rw [htC, List.length_set]; exact htC_len k
theorem hcD_len : ∀ k, (hcD k).length = 74
  | 0 => hcC_len 56
  | k + 1 => by rw [hcD, List.length_set]; exact hcD_len k
theorem htD_len : ∀ k, (htD k).length = 256
  | 0 => htC_len 56
  | k + 1 => by rw [htD, List.length_set]; exact htD_len k
theorem ch3_len : (ch 3 256).length = 56 := by decide +kernel
theorem ch5_len : (ch 5 256).length = 56 := by decide +kernel
def b5 (k : Nat) : Nat := bif decide (k ≤ 8) then 56 + k else 64 + k
theorem b5_q {i : Nat} (h : i ≤ 10) : (bif ((b5 i : Nat) : Int) == 64 then 72 else b5 i) = p5 i := by
  have : ∀ i, i ≤ 10 → (bif ((b5 i : Nat) : Int) == 64 then 72 else b5 i) = p5 i := by decide
  exact this i h
theorem p5_or {i : Nat} : (p5 i = 56 + i ∧ i < 8) ∨ (p5 i = 64 + i ∧ 8 ≤ i) := by
  unfold p5
  rcases Nat.lt_or_ge i 8 with h | h
  · exact .inl ⟨by rw [decide_eq_true h]; rfl, h⟩
  · exact .inr ⟨by rw [decide_eq_false (by omega)]; rfl, h⟩
theorem b5_s {i : Nat} (h : i < 10) : b5 (i + 1) = p5 i + 1 := by
  have : ∀ i, i < 10 → b5 (i + 1) = p5 i + 1 := by decide
  exact this i h
attribute [local irreducible] htA hcB htB hcC htC hcD htD ch
set_option maxRecDepth 100000 in
theorem xhnew  : Con Try.prog 28 #[] [] [] (fun E => [ob (E.blk 0) (rB 74 (hcD 10) ++ rI 256 (htD 10)).toArray 117]) (fun E => pt ((E.blk 0)) 0) := by
 have hf := Try.func28
 have hE := enters_of hf (by kernel_rfl) rfl
 refine fE hf (fun w cs => ?_) hE
 refine r0 [] [(0, .pointer none)] [] ?_
 refine rr (fun _ => [(3, .s 1)]) (fun q2 => [(1, pt ((q2 2).blk 0) 0)]) [] (fun q2 L => L ++ [ob ((q2 1).blk 0) (rB 74 (List.replicate 74 0) ++ rN 256 (List.replicate 256 0)).toArray 117, ob ((q2 2).blk 0) #[pt ((q2 1).blk 0) 0] 76]) fun q2 => ?_
 refine r0 [] [(9, i6 0)] [] ?_
 refine lq (fun k => k ≤ 256) (fun k => [(9, i6 (k : Int))]) (fun k L => L.set 0 (ob ((q2 1).blk 0) (rB 74 (List.replicate 74 0) ++ rI 256 (htA k)).toArray 117)) (fun k => 256 - k) 0 (by omega) (by kernel_rfl) (by rw [show htA 0 = List.replicate 256 0 by unfold htA; rfl]; kernel_rfl) (fun k hk4 => ?_)
 refine r0 [] [(10, .bool (decide ((k : Int) < 256)))] [] ?_
 refine cLt (k : Int) 256 (fun h6 dh6 => ?_) fun h6 dh6 => ?_
 ·refine r0 [] [(2, i6 (k : Int))] [] ?_
  refine rr (fun _ => [(0, .l 1), (4, iA 115 .i64 ((q2 1).blk 0) 74 256 1 k), (5, wM (A := (rB 74 (List.replicate 74 0) : List Value)) (R := rI 256 (htA k)) (C := []) 0 ((q2 1).blk 0) k 117 (i6 (-1)) (rB 74 (List.replicate 74 0) ++ rI 256 (htA k)) (rB 74 (List.replicate 74 0) ++ rI 256 ((htA k).set k (-1))) (by rw [List.append_nil]) (by rw [List.append_nil]) rB_ln (rL_lt (by omega)) (rI_set (htA_len ..)))]) (fun _ => []) [] (fun _ L => L.set 0 (ob ((q2 1).blk 0) (rB 74 (List.replicate 74 0) ++ rI 256 ((htA k).set k (-1))).toArray 117)) fun q8 => ?_
  refine r0 [(0, ad k 1)] [(9, i6 ((k + 1 : Nat) : Int))] [9] ?_
  exact le (k + 1) (by omega) (by omega) (by kernel_rfl) [0, 1] (by rw [show htA (k + 1) = (htA k).set k (-1) by rw [htA]]; kernel_rfl)
 obtain rfl : k = 256 := by omega
 refine lx ?_
 refine r0 [] [(18, i6 0)] [] ?_
 refine lq (fun m => m ≤ 8) (fun m => [(18, i6 (m : Int))]) (fun m L => L.set 0 (ob ((q2 1).blk 0) (rB 74 (hcB m) ++ rI 256 (htB m)).toArray 117)) (fun m => 8 - m) 0 (by omega) (by kernel_rfl) (by rw [show hcB 0 = List.replicate 74 0 by unfold hcB; rfl, show htB 0 = htA 256 by unfold htB; rfl]; kernel_rfl) (fun m hk11 => ?_)
 refine r0 [] [(19, .bool (decide ((m : Int) < 8)))] [] ?_
 refine cLt (m : Int) 8 (fun h13 dh13 => ?_) fun h13 dh13 => ?_
 ·refine r0 [] [(3, i6 (m : Int))] [] ?_
  refine rr (fun _ => [(0, .l 1), (2, ad 64 m), (4, .t (tv (convert 3 112 (i6 (m : Int))) (fun _ => cvt_i64u Try.underlying3 Try.underlying112 (by omega)))), (5, .t (tv (sBin .shl 5 (.const (u1 1)) (.tmp 25) (u1 1) (u6 (m : Int))) (fun _ => bin_shl_b8 (a := 1) m (by omega)))), (6, .c [0] [0] (xhput ((q2 1).blk 0) (64 + m) (UInt8.ofNat (1 * 2 ^ m)) (hcB m) (htB m) (by omega) (by first | rfl | (simp only [List.length_set, List.length_append, List.length_replicate, List.length_cons, List.length_nil, List.length_map, List.length_range, List.length_take, List.length_drop, htA_len, hcB_len, htB_len, hcC_len, htC_len, hcD_len, htD_len]; done) | (simp only [List.length_set, List.length_append, List.length_replicate, List.length_cons, List.length_nil, List.length_map, List.length_range, List.length_take, List.length_drop, htA_len, hcB_len, htB_len, hcC_len, htC_len, hcD_len, htD_len]; omega)) (by first | rfl | (simp only [List.length_set, List.length_append, List.length_replicate, List.length_cons, List.length_nil, List.length_map, List.length_range, List.length_take, List.length_drop, htA_len, hcB_len, htB_len, hcC_len, htC_len, hcD_len, htD_len]; done) | (simp only [List.length_set, List.length_append, List.length_replicate, List.length_cons, List.length_nil, List.length_map, List.length_range, List.length_take, List.length_drop, htA_len, hcB_len, htB_len, hcC_len, htC_len, hcD_len, htD_len]; omega))))]) (fun _ => []) [] (fun _ L => L.set 0 (ob ((q2 1).blk 0) (rB 74 ((hcB m).set (64 + m) (UInt8.ofNat (1 * 2 ^ m))) ++ rI 256 ((htB m).set (UInt8.ofNat (1 * 2 ^ m)).toNat ((64 + m) : Int))).toArray 117)) fun q15 => ?_
  refine r0 [(0, ad m 1)] [(18, i6 ((m + 1 : Nat) : Int))] [18] ?_
  exact le (m + 1) (by omega) (by omega) (by kernel_rfl) [0, 1] (by rw [show hcB (m + 1) = (hcB m).set (64 + m) (UInt8.ofNat (1 * 2 ^ m)) by rw [hcB], show htB (m + 1) = (htB m).set (UInt8.ofNat (1 * 2 ^ m)).toNat ((64 + m : Nat) : Int) by rw [htB]]; kernel_rfl)
 obtain rfl : m = 8 := by omega
 refine lx ?_
 refine rr (fun _ => [(1, .s 2)]) (fun q17 => [(4, pt ((q17 0).blk 0) 0)]) [] (fun q17 L => L ++ [ob ((q17 0).blk 0) #[i6 0] 3]) fun q17 => ?_
 refine rr (fun _ => [(0, .c [] [3, 4] (xchoose 8 3))]) (fun q18 => [(29, .func (.func 77) #[] #[pt (((q18 0).blk 0)) 0, pt (((q18 0).blk 1)) 0])]) [] (fun q18 L => L ++ [ob ((q18 0).blk 0) #[i6 3] 3, ob ((q18 0).blk 1) #[i6 8] 3]) fun q18 => ?_
 refine rf0 (encs := fun (i : Nat) => #[u1 ((UInt8.ofNat i).toNat : Int)]) (xs := ch 3 256) (KO := [[(((q18 0).blk 0), .cells #[i6 3] 3 (0, 0))], [(((q18 0).blk 1), .cells #[i6 8] 3 (0, 0))]]) (xch3 ((q18 0).blk 0) ((q18 0).blk 1)) (enters_of Try.func77 (by kernel_rfl) rfl) (fun j => j ≤ (ch 3 256).length) (fun j L => (L.set 0 (ob ((q2 1).blk 0) (rB 74 (hcC j) ++ rI 256 (htC j)).toArray 117)).set 2 (ob ((q17 0).blk 0) #[i6 (j : Int)] 3)) [3, 4] (by omega) (by rw [show hcC 0 = hcB 8 by unfold hcC; rfl, show htC 0 = htB 8 by unfold htC; rfl]; kernel_rfl) (fun lR j xE R1 W1 hxE hk20 => ?_) (fun D19  hk20 => ?_)
 ·obtain ⟨hkb21, rfl⟩ := list_some 0 hxE
  have hcl := ch3_len
  refine r0 [] [(5, u1 ((UInt8.ofNat ((ch 3 256).getD j 0)).toNat : Int))] [] ?_
  refine ag [3, 4] (fun R2 W2 => ?_)
  refine rr (fun _ => [(0, .l 1), (1, .l 2), (3, .c [0] [0] (xhput ((q2 1).blk 0) j (UInt8.ofNat ((ch 3 256).getD j 0)) (hcC j) (htC j) (by omega) (by first | rfl | (simp only [List.length_set, List.length_append, List.length_replicate, List.length_cons, List.length_nil, List.length_map, List.length_range, List.length_take, List.length_drop, htA_len, hcB_len, htB_len, hcC_len, htC_len, hcD_len, htD_len]; done) | (simp only [List.length_set, List.length_append, List.length_replicate, List.length_cons, List.length_nil, List.length_map, List.length_range, List.length_take, List.length_drop, htA_len, hcB_len, htB_len, hcC_len, htC_len, hcD_len, htD_len]; omega)) (by first | rfl | (simp only [List.length_set, List.length_append, List.length_replicate, List.length_cons, List.length_nil, List.length_map, List.length_range, List.length_take, List.length_drop, htA_len, hcB_len, htB_len, hcC_len, htC_len, hcD_len, htD_len]; done) | (simp only [List.length_set, List.length_append, List.length_replicate, List.length_cons, List.length_nil, List.length_map, List.length_range, List.length_take, List.length_drop, htA_len, hcB_len, htB_len, hcC_len, htC_len, hcD_len, htD_len]; omega))))]) (fun _ => []) [] (fun _ L => L.set 0 (ob ((q2 1).blk 0) (rB 74 ((hcC j).set j (UInt8.ofNat ((ch 3 256).getD j 0))) ++ rI 256 ((htC j).set (UInt8.ofNat ((ch 3 256).getD j 0)).toNat (j : Int))).toArray 117)) fun q23 => ?_
  refine rr (fun _ => [(0, .l 2), (1, ad j 1), (2, .s 2)]) (fun _ => []) [] (fun _ L => L.set 2 (ob ((q17 0).blk 0) #[i6 ((j + 1 : Nat) : Int)] 3)) fun q24 => ?_
  exact ne _ ⟨(by omega), rfl⟩ [0, 1, 2, 3, 4] (by rw [show hcC (j + 1) = (hcC j).set j (UInt8.ofNat ((ch 3 256).getD j 0)) by rw [hcC], show htC (j + 1) = (htC j).set (UInt8.ofNat ((ch 3 256).getD j 0)).toNat ((j : Nat) : Int) by rw [htC]]; kernel_rfl)
 have hcl := ch3_len
 refine rr (fun _ => [(0, .c [] [5, 6] (xchoose 8 5))]) (fun q25 => [(37, .func (.func 77) #[] #[pt (((q25 0).blk 0)) 0, pt (((q25 0).blk 1)) 0])]) [] (fun q25 L => L ++ [ob ((q25 0).blk 0) #[i6 5] 3, ob ((q25 0).blk 1) #[i6 8] 3]) fun q25 => ?_
 refine rfx0 (encs := fun (i : Nat) => #[u1 ((UInt8.ofNat i).toNat : Int)]) (xs := ch 5 256) (KO := [[(((q25 0).blk 0), .cells #[i6 5] 3 (0, 0))], [(((q25 0).blk 1), .cells #[i6 8] 3 (0, 0))]]) (xch5 ((q25 0).blk 0) ((q25 0).blk 1)) (enters_of Try.func77 (by kernel_rfl) rfl) (fun i => i ≤ (ch 5 256).length ∧ (i ≤ 10)) (fun i L => (L.set 0 (ob ((q2 1).blk 0) (rB 74 (hcD i) ++ rI 256 (htD i)).toArray 117)).set 2 (ob ((q17 0).blk 0) #[i6 ((b5 i : Nat) : Int)] 3)) (fun c _ => (c = Code.exit 6)) (fun _ _ L => (L.set 0 (ob ((q2 1).blk 0) (rB 74 (hcD 10) ++ rI 256 (htD 10)).toArray 117)).set 2 (ob ((q17 0).blk 0) #[i6 74] 3)) [5, 6] ⟨by omega, (by omega)⟩ (by rw [show hcD 0 = hcC 56 by unfold hcD; rfl, show htD 0 = htC 56 by unfold htD; rfl, ← ch3_len]; kernel_rfl) (fun lR i xE R1 W1 hxE ⟨hk27, hi⟩ => ?_) (fun D26  ⟨hk27, hi⟩ => ?_) fun D26 c i hi hX => ?_
 ·obtain ⟨hkb28, rfl⟩ := list_some 0 hxE
  refine r0 [] [(6, u1 ((UInt8.ofNat ((ch 5 256).getD i 0)).toNat : Int))] [] ?_
  refine ag [5, 6] (fun R2 W2 => ?_)
  refine r0 [(0, .l 2)] [(40, .bool (((b5 i : Nat) : Int) == 64))] [] ?_
  refine cJ (((b5 i : Nat) : Int) == 64) (fun _ => []) (fun c => [ob ((q2 1).blk 0) (rB 74 (hcD i) ++ rI 256 (htD i)).toArray 117, ob ((q2 2).blk 0) #[pt ((q2 1).blk 0) 0] 76, ob ((q17 0).blk 0) #[i6 (((bif c then 72 else b5 i) : Nat) : Int)] 3, ob ((q18 0).blk 0) #[i6 3] 3, ob ((q18 0).blk 1) #[i6 8] 3, ob ((q25 0).blk 0) #[i6 5] 3, ob ((q25 0).blk 1) #[i6 8] 3]) (fun h31 => ?_) (fun h31 => ?_) ?_
  ·have dh31 := eq_of_beq h31
   refine rr (fun _ => [(0, .s 2)]) (fun _ => []) [] (fun _ L => L.set 2 (ob ((q17 0).blk 0) #[i6 72] 3)) fun q32 => ?_
   exact cm (by kernel_rfl) [0, 1, 2, 3, 4, 5, 6] (by kernel_rfl)
  ·have dh31 := ne_of_beq_false h31
   exact cm (by kernel_rfl) [0, 1, 2, 3, 4, 5, 6] (by kernel_rfl)
  have hq := b5_q hi
  have hp6 := p5_or (i := i)
  refine cl [ob ((q2 1).blk 0) (rB 74 (hcD i) ++ rI 256 (htD i)).toArray 117, ob ((q2 2).blk 0) #[pt ((q2 1).blk 0) 0] 76, ob ((q17 0).blk 0) #[i6 ((p5 i : Nat) : Int)] 3, ob ((q18 0).blk 0) #[i6 3] 3, ob ((q18 0).blk 1) #[i6 8] 3, ob ((q25 0).blk 0) #[i6 5] 3, ob ((q25 0).blk 1) #[i6 8] 3] (by rewrite [← hq]; kernel_rfl) ?_
  refine r0 [(0, .l 2)] [(42, .bool (((p5 i : Nat) : Int) == 74))] [] ?_
  refine cEq ((p5 i : Nat) : Int) 74 (fun h34 dh34 => ?_) fun h34 dh34 => ?_
  ·exact nx 6 _ ⟨rfl, rfl⟩ [0, 1, 2, 3, 4, 5, 6] (by clear hq; obtain rfl : i = 10 := (by omega); kernel_rfl)
  refine rr (fun _ => [(0, .l 1), (1, .l 2), (3, .c [0] [0] (xhput ((q2 1).blk 0) (p5 i) (UInt8.ofNat ((ch 5 256).getD i 0)) (hcD i) (htD i) (by omega) (by first | rfl | (simp only [List.length_set, List.length_append, List.length_replicate, List.length_cons, List.length_nil, List.length_map, List.length_range, List.length_take, List.length_drop, htA_len, hcB_len, htB_len, hcC_len, htC_len, hcD_len, htD_len]; done) | (simp only [List.length_set, List.length_append, List.length_replicate, List.length_cons, List.length_nil, List.length_map, List.length_range, List.length_take, List.length_drop, htA_len, hcB_len, htB_len, hcC_len, htC_len, hcD_len, htD_len]; omega)) (by first | rfl | (simp only [List.length_set, List.length_append, List.length_replicate, List.length_cons, List.length_nil, List.length_map, List.length_range, List.length_take, List.length_drop, htA_len, hcB_len, htB_len, hcC_len, htC_len, hcD_len, htD_len]; done) | (simp only [List.length_set, List.length_append, List.length_replicate, List.length_cons, List.length_nil, List.length_map, List.length_range, List.length_take, List.length_drop, htA_len, hcB_len, htB_len, hcC_len, htC_len, hcD_len, htD_len]; omega))))]) (fun _ => []) [] (fun _ L => L.set 0 (ob ((q2 1).blk 0) (rB 74 ((hcD i).set (p5 i) (UInt8.ofNat ((ch 5 256).getD i 0))) ++ rI 256 ((htD i).set (UInt8.ofNat ((ch 5 256).getD i 0)).toNat ((p5 i) : Int))).toArray 117)) fun q35 => ?_
  refine rr (fun _ => [(0, .l 2), (1, ad (p5 i) 1), (2, .s 2)]) (fun _ => []) [] (fun _ L => L.set 2 (ob ((q17 0).blk 0) #[i6 (((p5 i) + 1 : Nat) : Int)] 3)) fun q36 => ?_
  exact ne _ ⟨⟨by omega, (by omega)⟩, rfl⟩ [0, 1, 2, 3, 4, 5, 6] (by rw [show hcD (i + 1) = (hcD i).set (p5 i) (UInt8.ofNat ((ch 5 256).getD i 0)) by rw [hcD], show htD (i + 1) = (htD i).set (UInt8.ofNat ((ch 5 256).getD i 0)).toNat ((p5 i : Nat) : Int) by rw [htD], b5_s (i := i) (by omega)]; kernel_rfl)
 ·exact absurd hi (by rw [ch5_len]; decide)
 obtain rfl := hX
 refine r0 [(0, .l 1)] [(0, pt ((q2 1).blk 0) 0)] [0] ?_
 exact lf (.l [(q2 1).blk 0] [] []) [0] [] []
end Go.Proofs.Ytdglhppcfdpcaaa.E
