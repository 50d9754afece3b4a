/- Several texts in one: Ha Hb. -/
import Derived.Test.YtdglhppcfdpcaaaGoY
import Derived.Test.YtdglhppcfdpcaaaGw
import Derived.Test.YtdglhppcfdpcaaaBtX
import Derived.WalkKit
import Derived.Sort.CutIn
import Derived.IntWalk
namespace Go.Proofs.Ytdglhppcfdpcaaa.E
open Go Go.RowKit Go.Shelf
set_option linter.unusedVariables false
set_option linter.unusedSimpArgs false
/-- A number without its lowest ones. -/
def bw (x : Nat) : Nat → Nat
  | 0 => x
  | k + 1 => bw x k &&& (bw x k - 1)
theorem bw_le (x : Nat) : ∀ k, bw x k ≤ x
  | 0 => Nat.le_refl _
  | k + 1 => Nat.le_trans Nat.and_le_left (bw_le x k)
theorem bw_pc {x : Nat} (hx : x < 18446744073709551616) {k : Nat} (h : pc (bw x k) + k = pc x) (h0 : ((bw x k : Nat) : Int) ≠ 0) : pc (bw x (k + 1)) + (k + 1) = pc x ∧ k < pc x := by
  have h1 := bw_le x k
  have h2 := pc_and_pred (bw x k) (by omega) (by omega)
  show pc (bw x k &&& (bw x k - 1)) + (k + 1) = pc x ∧ _
  omega
theorem bw_end {x k : Nat} (h : pc (bw x k) + k = pc x) (h0 : ((bw x k : Nat) : Int) = 0) : k = pc x := by
  have h1 : bw x k = 0 := by omega
  rw [h1, pc_zero] at h
  omega
attribute [local irreducible] pc
set_option maxRecDepth 100000 in
theorem xw64 (x : Nat) (hx : x < 18446744073709551616) : Con Try.prog 79 #[u6 (x : Int)] [] [] (fun _ => []) (fun _ => i6 (((pc x) : Nat) : Int)) := by
 have hf := Try.func79
 have hE := enters_of hf (by kernel_rfl) rfl
 refine fE hf (fun w cs => ?_) hE
 refine r0 [] [(2, i6 0)] [] ?_
 refine r0 [] [(3, i6 0)] [] ?_
 refine lq (fun k => k ≤ pc x ∧ (pc (bw x k) + k = pc x)) (fun k => [(0, u6 ((bw x k : Nat) : Int)), (3, i6 (k : Int))]) (fun _ L => L) (fun k => (pc x) - k) 0 ⟨by omega, (Nat.add_zero (pc x))⟩ (by kernel_rfl) (by kernel_rfl) (fun k ⟨hk3, hw⟩ => ?_)
 have hcl := bw_le x k
 have hpl := pc_le x
 refine r0 [] [(5, .bool (((bw x k : Nat) : Int) != 0))] [] ?_
 refine cNe ((bw x k : Nat) : Int) 0 (fun h5 dh5 => ?_) fun h5 dh5 => ?_
 ·refine r0 [(2, .t (tv (sBin .sub 87 (.tmp 7) (.const (u6 1)) (u6 ((bw x k : Nat) : Int)) (u6 1)) (fun _ => bin_sub_u64 (b := 1) (by omega) (by omega)))), (3, .t (tv (sBin .and 87 (.tmp 6) (.tmp 8) (u6 ((bw x k : Nat) : Int)) (u6 ((bw x k - 1 : Nat) : Int))) (fun _ => bin_and_u64 (a := bw x k) (b := bw x k - 1) (by omega) (by omega))))] [(0, u6 ((bw x (k + 1) : Nat) : Int))] [0] ?_
  refine r0 [(1, ad k 1)] [(3, i6 ((k + 1 : Nat) : Int))] [3] ?_
  have hkn := bw_pc (by omega) hw (by assumption)
  exact le (k + 1) ⟨by omega, (bw_pc (by omega) hw (by assumption)).1⟩ (by omega) (by kernel_rfl) [] (by kernel_rfl)
 have hke := bw_end hw (by assumption)
 obtain rfl : k = pc x := by omega
 refine lx ?_
 refine r0 [] [(2, i6 (((pc x) : Nat) : Int))] [2] ?_
 exact lf Env.zero [] [] []
set_option maxRecDepth 100000 in
theorem xw32 (x : Nat) (hx : x < 4294967296) : Con Try.prog 84 #[.int .u32 (x : Int)] [] [] (fun _ => []) (fun _ => i6 (((pc x) : Nat) : Int)) := by
 have hf := Try.func84
 have hE := enters_of hf (by kernel_rfl) rfl
 refine fE hf (fun w cs => ?_) hE
 refine r0 [] [(2, i6 0)] [] ?_
 refine r0 [] [(3, i6 0)] [] ?_
 refine lq (fun k => k ≤ pc x ∧ (pc (bw x k) + k = pc x)) (fun k => [(0, .int .u32 ((bw x k : Nat) : Int)), (3, i6 (k : Int))]) (fun _ L => L) (fun k => (pc x) - k) 0 ⟨by omega, (Nat.add_zero (pc x))⟩ (by kernel_rfl) (by kernel_rfl) (fun k ⟨hk3, hw⟩ => ?_)
 have hcl := bw_le x k
 have hpl := pc_le x
 refine r0 [] [(5, .bool (((bw x k : Nat) : Int) != 0))] [] ?_
 refine cNe ((bw x k : Nat) : Int) 0 (fun h5 dh5 => ?_) fun h5 dh5 => ?_
 ·refine r0 [(2, .t (tv (sBin .sub 134 (.tmp 7) (.const (.int .u32 1)) (.int .u32 ((bw x k : Nat) : Int)) (.int .u32 1)) (fun _ => bin_sub_u32 (b := 1) (by omega) (by omega)))), (3, .t (tv (sBin .and 134 (.tmp 6) (.tmp 8) (.int .u32 ((bw x k : Nat) : Int)) (.int .u32 ((bw x k - 1 : Nat) : Int))) (fun _ => bin_and_u32 (a := bw x k) (b := bw x k - 1) (by omega) (by omega))))] [(0, .int .u32 ((bw x (k + 1) : Nat) : Int))] [0] ?_
  refine r0 [(1, ad k 1)] [(3, i6 ((k + 1 : Nat) : Int))] [3] ?_
  have hkn := bw_pc (by omega) hw (by assumption)
  exact le (k + 1) ⟨by omega, (bw_pc (by omega) hw (by assumption)).1⟩ (by omega) (by kernel_rfl) [] (by kernel_rfl)
 have hke := bw_end hw (by assumption)
 obtain rfl : k = pc x := by omega
 refine lx ?_
 refine r0 [] [(2, i6 (((pc x) : Nat) : Int))] [2] ?_
 exact lf Env.zero [] [] []
set_option maxRecDepth 100000 in
theorem xw8 (x : Nat) (hx : x < 256) : Con Try.prog 97 #[u1 (x : Int)] [] [] (fun _ => []) (fun _ => i6 (((pc x) : Nat) : Int)) := by
 have hf := Try.func97
 have hE := enters_of hf (by kernel_rfl) rfl
 refine fE hf (fun w cs => ?_) hE
 refine r0 [] [(2, i6 0)] [] ?_
 refine r0 [] [(3, i6 0)] [] ?_
 refine lq (fun k => k ≤ pc x ∧ (pc (bw x k) + k = pc x)) (fun k => [(0, u1 ((bw x k : Nat) : Int)), (3, i6 (k : Int))]) (fun _ L => L) (fun k => (pc x) - k) 0 ⟨by omega, (Nat.add_zero (pc x))⟩ (by kernel_rfl) (by kernel_rfl) (fun k ⟨hk3, hw⟩ => ?_)
 have hcl := bw_le x k
 have hpl := pc_le x
 refine r0 [] [(5, .bool (((bw x k : Nat) : Int) != 0))] [] ?_
 refine cNe ((bw x k : Nat) : Int) 0 (fun h5 dh5 => ?_) fun h5 dh5 => ?_
 ·refine r0 [(2, .t (tv (sBin .sub 5 (.tmp 7) (.const (u1 1)) (u1 ((bw x k : Nat) : Int)) (u1 1)) (fun _ => bin_sub_n8 (b := 1) (by omega) (by omega)))), (3, .t (tv (sBin .and 5 (.tmp 6) (.tmp 8) (u1 ((bw x k : Nat) : Int)) (u1 ((bw x k - 1 : Nat) : Int))) (fun _ => bin_and_n8 (a := bw x k) (b := bw x k - 1) (by omega) (by omega))))] [(0, u1 ((bw x (k + 1) : Nat) : Int))] [0] ?_
  refine r0 [(1, ad k 1)] [(3, i6 ((k + 1 : Nat) : Int))] [3] ?_
  have hkn := bw_pc (by omega) hw (by assumption)
  exact le (k + 1) ⟨by omega, (bw_pc (by omega) hw (by assumption)).1⟩ (by omega) (by kernel_rfl) [] (by kernel_rfl)
 have hke := bw_end hw (by assumption)
 obtain rfl : k = pc x := by omega
 refine lx ?_
 refine r0 [] [(2, i6 (((pc x) : Nat) : Int))] [2] ?_
 exact lf Env.zero [] [] []
set_option maxRecDepth 100000 in
theorem xwide  : Con Try.prog 78 #[] [] [] (fun _ => []) (fun _ => i6 8) := by
 have hf := Try.func78
 have hE := enters_of hf (by kernel_rfl) rfl
 refine fE hf (fun w cs => ?_) hE
 refine r0 [] [(0, i6 0)] [] ?_
 refine r0 [(1, .t (tv (Op.unary .xor (u1 0)) (fun _ => rfl))), (2, .c [] [] (xw8 255 (by omega)))] [(0, i6 (((pc 255) : Nat) : Int))] [0] ?_
 exact lfV (i6 (((pc 255) : Nat) : Int)) Env.zero (by kernel_rfl) [] [] []
set_option maxRecDepth 100000 in
theorem xpar32 (x : Nat) (hx : x < 4294967296) : Con Try.prog 60 #[.int .u32 (x : Int)] [] [] (fun _ => []) (fun _ => i6 ((pc x % 2 : Nat) : Int)) := by
 have hf := Try.func60
 have hE := enters_of hf (by kernel_rfl) rfl
 refine fE hf (fun w cs => ?_) hE
 refine r0 [] [(2, i6 0)] [] ?_
 refine r0 [(1, .c [] [] (xw32 x (by omega))), (2, .t (tv (sBin .and 3 (.tmp 4) (.const (i6 1)) (i6 (((pc x) : Nat) : Int)) (i6 1)) (fun _ => bin_low_i64 (a := pc x))))] [(2, i6 ((pc x % 2 : Nat) : Int))] [2] ?_
 exact lf Env.zero [] [] []
/-- How many ones below a place. -/
def on (x k : Nat) : Nat := (onesTo k 0 x).length
theorem onesTo_snoc : ∀ (k i x : Nat), onesTo (k + 1) i x = onesTo k i x ++ (bif x / 2 ^ k % 2 == 1 then [i + k] else [])
  | 0, i, x => by
    show (if x % 2 = 1 then i :: onesTo 0 (i + 1) (x / 2) else onesTo 0 (i + 1) (x / 2)) = [] ++ _
    rw [Nat.pow_zero, Nat.div_one]
    by_cases h : x % 2 = 1
    · rw [if_pos h, h]; rfl
    · rw [if_neg h, show (x % 2 == 1) = false from beq_false_of_ne h]; rfl
  | k + 1, i, x => by
    have e := onesTo_snoc k (i + 1) (x / 2)
    rw [Nat.div_div_eq_div_mul, Nat.mul_comm, ← Nat.pow_succ, show i + 1 + k = i + (k + 1) by omega] at e
    show (if x % 2 = 1 then i :: onesTo (k + 1) (i + 1) (x / 2) else onesTo (k + 1) (i + 1) (x / 2)) = (if x % 2 = 1 then i :: onesTo k (i + 1) (x / 2) else onesTo k (i + 1) (x / 2)) ++ _
    rw [e]
    by_cases h : x % 2 = 1
    · rw [if_pos h, if_pos h]; rfl
    · rw [if_neg h, if_neg h]
theorem onesTo_add (x k : Nat) : ∀ d, ∃ t, onesTo (k + d) 0 x = onesTo k 0 x ++ t
  | 0 => ⟨[], (List.append_nil _).symm⟩
  | d + 1 => by
    obtain ⟨t, h⟩ := onesTo_add x k d
    exact ⟨_, by rw [show k + (d + 1) = k + d + 1 from rfl, onesTo_snoc, h, List.append_assoc]⟩
theorem on_t {x k : Nat} (h : (((x / 2 ^ k % 2 : Nat) : Int) == 1) = true) : on x (k + 1) = on x k + 1 := by
  have h1 : x / 2 ^ k % 2 = 1 := by have := eq_of_beq h; omega
  unfold on
  rw [onesTo_snoc, h1, List.length_append]
  rfl
theorem on_f {x k : Nat} (h : (((x / 2 ^ k % 2 : Nat) : Int) == 1) = false) : on x (k + 1) = on x k := by
  have h1 : (x / 2 ^ k % 2 == 1) = false := by have := ne_of_beq_false h; exact beq_false_of_ne (by omega)
  unfold on
  rw [onesTo_snoc, h1, List.length_append]
  rfl
theorem on_get {x k : Nat} (hk : k < 64) (h : (((x / 2 ^ k % 2 : Nat) : Int) == 1) = true) : (ones x)[on x k]? = some k := by
  have h1 : x / 2 ^ k % 2 = 1 := by have := eq_of_beq h; omega
  obtain ⟨t, e⟩ := onesTo_add x (k + 1) (64 - (k + 1))
  have e2 := onesTo_snoc k 0 x
  rw [h1] at e2
  rw [show k + 1 + (64 - (k + 1)) = 64 by omega, e2, List.append_assoc] at e
  show (onesTo 64 0 x)[(onesTo k 0 x).length]? = _
  rw [e, List.getElem?_append_right (Nat.le_refl _), Nat.sub_self]
  show some (0 + k) = _
  rw [Nat.zero_add]
theorem on_end {x k : Nat} (hk : k ≤ 64) (h9 : ((x / 2 ^ k : Nat) : Int) = 0) : on x k = (ones x).length := by
  have h : x / 2 ^ k = 0 := Int.ofNat.inj h9
  have h2 : ∀ d, onesTo (k + d) 0 x = onesTo k 0 x := by
    intro d
    induction d with
    | zero => rfl
    | succ d ih =>
      rw [show k + (d + 1) = k + d + 1 from rfl, onesTo_snoc, ih, Nat.pow_add, ← Nat.div_div_eq_div_mul, h, Nat.zero_div]
      exact List.append_nil _
  have h3 := h2 (64 - k)
  rw [show k + (64 - k) = 64 by omega] at h3
  exact congrArg List.length h3.symm
theorem div_two {x : Nat} (k : Nat) : x / 2 ^ (k + 1) = x / 2 ^ k / 2 ^ 1 := by rw [Nat.pow_succ, ← Nat.div_div_eq_div_mul]
theorem on_lt {x k : Nat} (hx : x < 18446744073709551616) (hk : k ≤ 64) (h : ((x / 2 ^ k : Nat) : Int) ≠ 0) : k < 64 := by
  refine Nat.lt_of_le_of_ne hk fun e => ?_
  subst e
  exact h (by have : x / 2 ^ 64 = 0 := Nat.div_eq_of_lt hx; omega)
set_option maxRecDepth 100000 in
theorem xones_it (g x : Nat) (hx : x < 18446744073709551616) : IterG 5 Try.prog 85 #[pt g 0] (fun (i : Nat) => #[i6 ((i : Nat) : Int)]) (ones x) (List.flatten []) [(g, .cells #[u6 (x : Int)] 87 (0, 0))] := by
 refine gG (KO := []) Try.func85 (fun lY JY JX WI RI hJ hY hI => ?_)
 refine r0 [] [(3, i6 0)] [] ?_
 refine lqI (fun k => k ≤ 64) (fun k => [(3, i6 (k : Int))]) (fun k L => L.set 0 (ob g #[u6 ((x / 2 ^ k : Nat) : Int)] 87)) (fun k => 64 - k) (fun k => on x k) 0 (by omega) hI (by kernel_rfl) (by rw [Nat.pow_zero, Nat.div_one]; kernel_rfl) (fun k R4 W5 hk2 hI3 => ?_)
 have hdl : x / 2 ^ k < 18446744073709551616 := Nat.lt_of_le_of_lt (Nat.div_le_self _ _) hx
 refine r0 [(0, .l 0)] [(5, .bool (((x / 2 ^ k : Nat) : Int) != 0))] [] ?_
 refine cNe ((x / 2 ^ k : Nat) : Int) 0 (fun h7 dh7 => ?_) fun h7 dh7 => ?_
 ·cases h8 : (((x / 2 ^ k % 2 : Nat) : Int) == 1)
  case true =>
   have dh8 := eq_of_beq h8
   refine iy hJ hY hI3 6 (fun _ => [(0, .l 0), (1, .t (tv (sBin .and 87 (.tmp 8) (.const (u6 1)) (u6 ((x / 2 ^ k : Nat) : Int)) (u6 1)) (fun _ => bin_low_u64 hdl))), (2, .t (tk (show Value.bool (((x / 2 ^ k % 2 : Nat) : Int) == 1) = .bool true from congrArg Value.bool h8)))]) (fun _ => [(11, .bool true), (12, .func (.yield lY) #[] #[]), (13, i6 (k : Int))]) [] (fun _ L => L) (fun _ => [ob g #[u6 ((x / 2 ^ k : Nat) : Int)] 87]) [0] (on_get (on_lt hx (by omega) (by assumption)) (by assumption)) (fun q9 R10 W11 hI12 => ?_)
   refine cF _ rfl ?_
   refine rr (fun _ => [(0, .l 0), (1, .t (tv (sBin .shr 87 (.tmp 17) (.const (u6 1)) (u6 ((x / 2 ^ k : Nat) : Int)) (u6 1)) (fun _ => bin_shr_u64 1 (by decide)))), (2, .s 0)]) (fun _ => []) [] (fun _ L => L.set 0 (ob g #[u6 ((x / 2 ^ k / 2 ^ 1 : Nat) : Int)] 87)) fun q13 => ?_
   refine r0 [(1, ad k 1)] [(3, i6 ((k + 1 : Nat) : Int))] [3] ?_
   have hk64 := on_lt hx (by omega) (by assumption)
   exact leI (k + 1) (by omega) (by (first | rw [on_t (by assumption)] | rw [on_f (by assumption)]); exact hI12) (by omega) (by kernel_rfl) [0] (by rw [div_two (x := x) k]; kernel_rfl)
  have dh8 := ne_of_beq_false h8
  refine r0 [(0, .l 0), (1, .t (tv (sBin .and 87 (.tmp 8) (.const (u6 1)) (u6 ((x / 2 ^ k : Nat) : Int)) (u6 1)) (fun _ => bin_low_u64 hdl))), (2, .t (tk (show Value.bool (((x / 2 ^ k % 2 : Nat) : Int) == 1) = .bool false from congrArg Value.bool h8))), (4, .d), (5, .d), (6, .d), (7, .d)] [(16, .bool false)] [] ?_
  refine cF _ rfl ?_
  refine rr (fun _ => [(0, .l 0), (1, .t (tv (sBin .shr 87 (.tmp 17) (.const (u6 1)) (u6 ((x / 2 ^ k : Nat) : Int)) (u6 1)) (fun _ => bin_shr_u64 1 (by decide)))), (2, .s 0)]) (fun _ => []) [] (fun _ L => L.set 0 (ob g #[u6 ((x / 2 ^ k / 2 ^ 1 : Nat) : Int)] 87)) fun q16 => ?_
  refine r0 [(1, ad k 1)] [(3, i6 ((k + 1 : Nat) : Int))] [3] ?_
  have hk64 := on_lt hx (by omega) (by assumption)
  exact leI (k + 1) (by omega) (by (first | rw [on_t (by assumption)] | rw [on_f (by assumption)]); exact hI3) (by omega) (by kernel_rfl) [0] (by rw [div_two (x := x) k]; kernel_rfl)
 refine lxI ?_
 exact ilN hJ hI3 (by exact on_end (by omega) (by assumption)) [ob g #[u6 ((x / 2 ^ k : Nat) : Int)] 87] [0]
set_option maxRecDepth 100000 in
theorem xones (x : Nat) : Con Try.prog 64 #[u6 (x : Int)] [] [] (fun E => [ob (E.blk 0) #[u6 (x : Int)] 87]) (fun E => .func (.func 85) #[] #[pt ((E.blk 0)) 0]) := by
 have hf := Try.func64
 have hE := enters_of hf (by kernel_rfl) rfl
 refine fE hf (fun w cs => ?_) hE
 refine rr (fun _ => []) (fun q1 => [(1, pt ((q1 0).blk 0) 0), (2, .nilFunc)]) [] (fun q1 L => L ++ [ob ((q1 0).blk 0) #[u6 (x : Int)] 87]) fun q1 => ?_
 refine r0 [] [(2, .func (.func 85) #[] #[pt ((q1 0).blk 0) 0])] [2] ?_
 exact lf (.l [(q1 0).blk 0] [] []) [0] [] []
end Go.Proofs.Ytdglhppcfdpcaaa.E
namespace Go.Proofs.Ytdglhppcfdpcaaa.E
open Go Go.RowKit Go.Shelf
set_option linter.unusedVariables false
set_option linter.unusedSimpArgs false
attribute [local irreducible] pc
/-- The numbers below j with k ones. -/
def ch (k : Nat) : Nat → List Nat
  | 0 => []
  | j + 1 => ch k j ++ (bif ((pc j : Nat) : Int) == ((k : Nat) : Int) then [j] else [])
theorem ch_t {k j : Nat} (h : (((pc j : Nat) : Int) == ((k : Nat) : Int)) = true) : (ch k (j + 1)).length = (ch k j).length + 1 := by
  show (ch k j ++ _).length = _
  rw [h, List.length_append]; rfl
theorem ch_f {k j : Nat} (h : (((pc j : Nat) : Int) == ((k : Nat) : Int)) = false) : (ch k (j + 1)).length = (ch k j).length := by
  show (ch k j ++ _).length = _
  rw [h, List.length_append]; rfl
theorem ch_add (k j : Nat) : ∀ d, ∃ t, ch k (j + d) = ch k j ++ t
  | 0 => ⟨[], (List.append_nil _).symm⟩
  | d + 1 => by
    obtain ⟨t, h⟩ := ch_add k j d
    exact ⟨_, by show ch k (j + d) ++ _ = _; rw [h, List.append_assoc]⟩
theorem ch_get {k j n : Nat} (hj : j < n) (h : (((pc j : Nat) : Int) == ((k : Nat) : Int)) = true) : (ch k n)[(ch k j).length]? = some j := by
  obtain ⟨t, e⟩ := ch_add k (j + 1) (n - (j + 1))
  rw [show j + 1 + (n - (j + 1)) = n by omega, show ch k (j + 1) = ch k j ++ [j] by show ch k j ++ _ = _; rw [h]; rfl, List.append_assoc] at e
  rw [e, List.getElem?_append_right (Nat.le_refl _), Nat.sub_self]
  rfl
theorem bin_shl8 {P : Program} {T : TypeId} {x y : Operand} {w : World} : (sBin .shl T x y (.int .u64 1) (.int .u64 8)).run P w = .ok (.int .u64 256) w := bin_shl_u64 (a := 1) (yk := .u64) 8 (by decide) (by decide)
set_option maxRecDepth 100000 in
theorem xch3 (g b : Nat) : IterE 5 Try.prog 77 #[pt g 0, pt b 0] (fun (i : Nat) => #[u1 ((UInt8.ofNat i).toNat : Int)]) (ch 3 256) (List.flatten [[(g, .cells #[i6 3] 3 (0, 0))], [(b, .cells #[i6 8] 3 (0, 0))]]) := by
 refine gi (KO := [[(g, .cells #[i6 3] 3 (0, 0))], [(b, .cells #[i6 8] 3 (0, 0))]]) Try.func77 (fun lY JY JX WI RI hJ hY hI => ?_)
 refine r0 [(0, .l 0), (3, .l 0), (4, .l 1), (8, .l 1), (9, .c [] [] (xwide))] [(17, .bool false)] [] ?_
 refine cF _ rfl ?_
 refine r0 [(0, .l 1), (1, .t (tv (convert 3 112 (i6 8)) (fun _ => cvt_i64u Try.underlying3 Try.underlying112 (c := 8) (by omega)))), (2, .t (tv (sBin .shl 87 (.const (u6 1)) (.tmp 19) (u6 1) (u6 8)) (fun _ => bin_shl8)))] [(20, u6 256), (21, u6 0)] [] ?_
 refine lqI (fun k => k ≤ 256) (fun k => [(21, u6 (k : Int))]) (fun _ L => L) (fun k => 256 - k) (fun k => (ch 3 k).length) 0 (by omega) hI (by kernel_rfl) (by kernel_rfl) (fun k R5 W6 hk3 hI4 => ?_)
 refine r0 [] [(22, .bool (decide ((k : Int) < 256)))] [] ?_
 refine cLt (k : Int) 256 (fun h8 dh8 => ?_) fun h8 dh8 => ?_
 ·refine r0 [] [(4, u6 (k : Int))] [] ?_
  cases h10 : ((((pc k) : Nat) : Int) == 3)
  case true =>
   have dh10 := eq_of_beq h10
   refine iy hJ hY hI4 8 (fun _ => [(1, .c [] [] (xw64 k (by omega))), (2, .l 0), (3, .t (tk (show Value.bool ((((pc k) : Nat) : Int) == 3) = .bool true from congrArg Value.bool h10))), (7, .t (tv (convert 87 5 (u6 (k : Int))) (fun _ => cvt_u64u8 Try.underlying87 Try.underlying5)))]) (fun _ => [(28, .bool true), (29, .func (.yield lY) #[] #[]), (31, u1 ((UInt8.ofNat k).toNat : Int))]) [] (fun _ L => L) (fun _ => []) [0, 1] (ch_get (by omega) (by assumption)) (fun q11 R12 W13 hI14 => ?_)
   refine cF _ rfl ?_
   refine r0 [(0, .t (tb (a := u6 (k : Int)) (b := u6 1) fun _ _ _ _ => bin_add_u64 (a := k) (b := 1) (by omega)))] [(21, u6 ((k + 1 : Nat) : Int))] [21] ?_
   exact leI (k + 1) (by omega) (by (first | rw [ch_t (by assumption)] | rw [ch_f (by assumption)]); exact hI14) (by omega) (by kernel_rfl) [0, 1] (by kernel_rfl)
  have dh10 := ne_of_beq_false h10
  refine r0 [(1, .c [] [] (xw64 k (by omega))), (2, .l 0), (3, .t (tk (show Value.bool ((((pc k) : Nat) : Int) == 3) = .bool false from congrArg Value.bool h10))), (5, .d), (6, .d), (7, .d), (8, .d), (9, .d)] [(34, .bool false)] [] ?_
  refine cF _ rfl ?_
  refine r0 [(0, .t (tb (a := u6 (k : Int)) (b := u6 1) fun _ _ _ _ => bin_add_u64 (a := k) (b := 1) (by omega)))] [(21, u6 ((k + 1 : Nat) : Int))] [21] ?_
  exact leI (k + 1) (by omega) (by (first | rw [ch_t (by assumption)] | rw [ch_f (by assumption)]); exact hI4) (by omega) (by kernel_rfl) [0, 1] (by kernel_rfl)
 obtain rfl : k = 256 := by omega
 refine lxI ?_
 exact ilN hJ hI4 (by rfl) [] [0, 1]
set_option maxRecDepth 100000 in
theorem xch5 (g b : Nat) : IterE 5 Try.prog 77 #[pt g 0, pt b 0] (fun (i : Nat) => #[u1 ((UInt8.ofNat i).toNat : Int)]) (ch 5 256) (List.flatten [[(g, .cells #[i6 5] 3 (0, 0))], [(b, .cells #[i6 8] 3 (0, 0))]]) := by
 refine gi (KO := [[(g, .cells #[i6 5] 3 (0, 0))], [(b, .cells #[i6 8] 3 (0, 0))]]) Try.func77 (fun lY JY JX WI RI hJ hY hI => ?_)
 refine r0 [(0, .l 0), (3, .l 0), (4, .l 1), (8, .l 1), (9, .c [] [] (xwide))] [(17, .bool false)] [] ?_
 refine cF _ rfl ?_
 refine r0 [(0, .l 1), (1, .t (tv (convert 3 112 (i6 8)) (fun _ => cvt_i64u Try.underlying3 Try.underlying112 (c := 8) (by omega)))), (2, .t (tv (sBin .shl 87 (.const (u6 1)) (.tmp 19) (u6 1) (u6 8)) (fun _ => bin_shl8)))] [(20, u6 256), (21, u6 0)] [] ?_
 refine lqI (fun k => k ≤ 256) (fun k => [(21, u6 (k : Int))]) (fun _ L => L) (fun k => 256 - k) (fun k => (ch 5 k).length) 0 (by omega) hI (by kernel_rfl) (by kernel_rfl) (fun k R5 W6 hk3 hI4 => ?_)
 refine r0 [] [(22, .bool (decide ((k : Int) < 256)))] [] ?_
 refine cLt (k : Int) 256 (fun h8 dh8 => ?_) fun h8 dh8 => ?_
 ·refine r0 [] [(4, u6 (k : Int))] [] ?_
  cases h10 : ((((pc k) : Nat) : Int) == 5)
  case true =>
   have dh10 := eq_of_beq h10
   refine iy hJ hY hI4 8 (fun _ => [(1, .c [] [] (xw64 k (by omega))), (2, .l 0), (3, .t (tk (show Value.bool ((((pc k) : Nat) : Int) == 5) = .bool true from congrArg Value.bool h10))), (7, .t (tv (convert 87 5 (u6 (k : Int))) (fun _ => cvt_u64u8 Try.underlying87 Try.underlying5)))]) (fun _ => [(28, .bool true), (29, .func (.yield lY) #[] #[]), (31, u1 ((UInt8.ofNat k).toNat : Int))]) [] (fun _ L => L) (fun _ => []) [0, 1] (ch_get (by omega) (by assumption)) (fun q11 R12 W13 hI14 => ?_)
   refine cF _ rfl ?_
   refine r0 [(0, .t (tb (a := u6 (k : Int)) (b := u6 1) fun _ _ _ _ => bin_add_u64 (a := k) (b := 1) (by omega)))] [(21, u6 ((k + 1 : Nat) : Int))] [21] ?_
   exact leI (k + 1) (by omega) (by (first | rw [ch_t (by assumption)] | rw [ch_f (by assumption)]); exact hI14) (by omega) (by kernel_rfl) [0, 1] (by kernel_rfl)
  have dh10 := ne_of_beq_false h10
  refine r0 [(1, .c [] [] (xw64 k (by omega))), (2, .l 0), (3, .t (tk (show Value.bool ((((pc k) : Nat) : Int) == 5) = .bool false from congrArg Value.bool h10))), (5, .d), (6, .d), (7, .d), (8, .d), (9, .d)] [(34, .bool false)] [] ?_
  refine cF _ rfl ?_
  refine r0 [(0, .t (tb (a := u6 (k : Int)) (b := u6 1) fun _ _ _ _ => bin_add_u64 (a := k) (b := 1) (by omega)))] [(21, u6 ((k + 1 : Nat) : Int))] [21] ?_
  exact leI (k + 1) (by omega) (by (first | rw [ch_t (by assumption)] | rw [ch_f (by assumption)]); exact hI4) (by omega) (by kernel_rfl) [0, 1] (by kernel_rfl)
 obtain rfl : k = 256 := by omega
 refine lxI ?_
 exact ilN hJ hI4 (by rfl) [] [0, 1]
set_option maxRecDepth 100000 in
theorem xchoose (n k : Int) : Con Try.prog 55 #[i6 n, i6 k] [] [] (fun E => [ob (E.blk 0) #[i6 k] 3, ob (E.blk 1) #[i6 n] 3]) (fun E => .func (.func 77) #[] #[pt ((E.blk 0)) 0, pt ((E.blk 1)) 0]) := by
 have hf := Try.func55
 have hE := enters_of hf (by kernel_rfl) rfl
 refine fE hf (fun w cs => ?_) hE
 refine rr (fun _ => []) (fun q1 => [(2, pt ((q1 0).blk 0) 0), (3, pt ((q1 1).blk 0) 0), (4, .nilFunc)]) [] (fun q1 L => L ++ [ob ((q1 0).blk 0) #[i6 n] 3, ob ((q1 1).blk 0) #[i6 k] 3]) fun q1 => ?_
 refine r0 [] [(4, .func (.func 77) #[] #[pt ((q1 1).blk 0) 0, pt ((q1 0).blk 0) 0])] [4] ?_
 exact lf (.l [(q1 1).blk 0, (q1 0).blk 0] [] []) [1, 0] [] []
end Go.Proofs.Ytdglhppcfdpcaaa.E
