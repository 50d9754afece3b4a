/- A test. -/
import Derived.Test.YtdglhppcfdpcaaaGoX
import Derived.Test.YtdglhppcfdpcaaaEj
import Derived.WalkKit
import Derived.Sort.CutIn
import Derived.IntWalk
namespace Go.Proofs.Ytdglhppcfdpcaaa.E
open Go Go.RowKit Go.Shelf
set_option linter.unusedVariables false
set_option linter.unusedSimpArgs false
structure Sn where
  x0 : Int
  x1 : Int
  x2 : Int
  x3 : Int
  x4 : Int
def zSn : Sn := ⟨0, 0, 0, 0, 0⟩
def eSn (x : Sn) : List Value := [i6 x.x0, i6 x.x1, i6 x.x2, i6 x.x3, i6 x.x4]
def kSn : Kd Try.prog Sn := ⟨eSn, [i6 0, i6 0, i6 0, i6 0, i6 0], 29, 34, zSn, 5, fun _ => rfl, rfl, fun _ => rfl, SlT.mk' (by kernel_rfl) (by kernel_rfl) rfl⟩
abbrev slSn (v : Value) (xs : List Sn) : Ent := .p (SlE eSn ([i6 0, i6 0, i6 0, i6 0, i6 0]) 34 v xs)
structure Pp where
  x0 : Int
  x1 : Int
  x2 : Int
  x3 : Int
def zPp : Pp := ⟨0, 0, 0, 0⟩
def ePp (x : Pp) : List Value := [i6 x.x0, i6 x.x1, i6 x.x2, i6 x.x3]
def kPp : Kd Try.prog Pp := ⟨ePp, [i6 0, i6 0, i6 0, i6 0], 71, 32, zPp, 4, fun _ => rfl, rfl, fun _ => rfl, SlT.mk' (by kernel_rfl) (by kernel_rfl) rfl⟩
abbrev slPp (v : Value) (xs : List Pp) : Ent := .p (SlE ePp ([i6 0, i6 0, i6 0, i6 0]) 32 v xs)
def kb1 (xs : List Pp) : Nat → Bool
  | 0 => true
  | k + 1 => ((kb1 xs k) && (((xs.drop 1).getD k zPp).x1 == (xs.getD 0 zPp).x1)) && (((xs.drop 1).getD k zPp).x2 == (xs.getD 0 zPp).x2)
def kb2 (xs : List Pp) : Nat → Bool
  | 0 => true
  | k + 1 => ((kb2 xs k) && (((xs.drop 1).getD k zPp).x1 == (xs.getD 0 zPp).x1)) && (((xs.drop 1).getD k zPp).x3 == (xs.getD 0 zPp).x3)
def knd (xs : List Pp) : Int := bif decide (xs.length = 1) then 1 else bif kb1 xs (xs.length - 1) then 2 else bif kb2 xs (xs.length - 1) then 3 else 4
theorem knd_1 {xs : List Pp} (h : ((xs.length : Nat) : Int) == 1) : (1 : Int) = knd xs := by
  have h1 : xs.length = 1 := by have := eq_of_beq h; omega
  unfold knd; rw [decide_eq_true h1]; rfl
theorem knd_2 {xs : List Pp} {k : Nat} (h : (((xs.length : Nat) : Int) == 1) = false) (hk : k = xs.length - 1) (h2 : kb1 xs k = true) : (2 : Int) = knd xs := by
  have h1 : xs.length ≠ 1 := by have := ne_of_beq_false h; omega
  subst hk; unfold knd; rw [decide_eq_false h1, h2]; rfl
theorem knd_3 {xs : List Pp} {k : Nat} (h : (((xs.length : Nat) : Int) == 1) = false) (hk : k = xs.length - 1) (h2 : kb1 xs k = false) (h3 : kb2 xs k = true) : (3 : Int) = knd xs := by
  have h1 : xs.length ≠ 1 := by have := ne_of_beq_false h; omega
  subst hk; unfold knd; rw [decide_eq_false h1, h2, h3]; rfl
theorem knd_4 {xs : List Pp} {k : Nat} (h : (((xs.length : Nat) : Int) == 1) = false) (hk : k = xs.length - 1) (h2 : kb1 xs k = false) (h3 : kb2 xs k = false) : (4 : Int) = knd xs := by
  have h1 : xs.length ≠ 1 := by have := ne_of_beq_false h; omega
  subst hk; unfold knd; rw [decide_eq_false h1, h2, h3]; rfl
set_option maxRecDepth 100000 in
theorem tkind (v : Value) (xs : List Pp) (h0 : 1 ≤ xs.length) (hx : xs.length ≤ 1000000) : Con Try.prog 26 #[v] [.p (SqE ePp v xs)] [] (fun _ => []) (fun _ => i6 (knd xs)) := by
 have hf := Try.func26
 have hE := enters_of hf (by kernel_rfl) rfl
 refine Con.ro 0 rfl (fun bq0 hq0 => ?_) hE
 refine fE hf (fun w cs => ?_) hE
 refine r0 [] [(2, i6 0)] [] ?_
 refine r0 [] [(3, .bool true), (4, .bool true)] [] ?_
 refine r0 [(1, .m (slR 0 (.c bq0) 1 4 (cP hq0) (by first | omega | (have := List.length_drop (i := 1) (l := xs); omega)))), (2, lnR ((SqE.drop (k := 4) (fun _ => rfl) hq0 h0).1) 0)] [(8, sbV v 1 xs.length 4), (9, i6 (((xs.drop 1).length : Nat) : Int)), (10, i6 0)] [] ?_
 refine lq (fun k => k ≤ (xs.drop 1).length) (fun k => [(10, i6 (k : Int)), (3, .bool (kb1 xs k)), (4, .bool (kb2 xs k))]) (fun _ L => L) (fun k => ((xs.drop 1).length) - k) 0 (by omega) (by kernel_rfl) (by kernel_rfl) (fun k hk4 => ?_)
 have HLD : (xs.drop 1).length ≤ 1000000 := by rw [List.length_drop]; omega
 refine r0 [] [(11, .bool (decide ((k : Int) < (((xs.drop 1).length : Nat) : Int))))] [] ?_
 refine cLt (k : Int) (((xs.drop 1).length : Nat) : Int) (fun h6 dh6 => ?_) fun h6 dh6 => ?_
 ·refine rr (fun _ => [(0, ixR ((SqE.drop (k := 4) (fun _ => rfl) hq0 h0).1) 0 k 4 (by first | omega | (have := List.length_drop (i := 1) (l := xs); omega))), (1, agR kPp ((SqE.drop (k := 4) (fun _ => rfl) hq0 h0).1) 0 k 0 4 (by first | omega | (have := List.length_drop (i := 1) (l := xs); omega))), (3, .s 1)]) (fun q7 => [(6, pt ((q7 2).blk 0) 0)]) [] (fun q7 L => L ++ [ob ((q7 2).blk 0) #[i6 (((xs.drop 1).getD k zPp).x0), i6 (((xs.drop 1).getD k zPp).x1), i6 (((xs.drop 1).getD k zPp).x2), i6 (((xs.drop 1).getD k zPp).x3)] 32]) fun q7 => ?_
  refine r0 [(3, .l 1), (5, ixR hq0.1 0 0 4 (by first | omega | (have := List.length_drop (i := 1) (l := xs); omega))), (6, fdR hq0.1 0 (0 * 4) 1 (by first | omega | (have := List.length_drop (i := 1) (l := xs); omega))), (7, gtR kPp hq0.1 0 0 1 (by first | omega | (have := List.length_drop (i := 1) (l := xs); omega))), (12, .l 1), (14, ixR hq0.1 0 0 4 (by first | omega | (have := List.length_drop (i := 1) (l := xs); omega))), (15, fdR hq0.1 0 (0 * 4) 2 (by first | omega | (have := List.length_drop (i := 1) (l := xs); omega))), (16, gtR kPp hq0.1 0 0 2 (by first | omega | (have := List.length_drop (i := 1) (l := xs); omega)))] [(3, .bool (((kb1 xs k) && ((((xs.drop 1).getD k zPp).x1) == ((xs.getD 0 zPp).x1))) && ((((xs.drop 1).getD k zPp).x2) == ((xs.getD 0 zPp).x2))))] [] ?_
  refine r0 [(3, .l 1), (5, ixR hq0.1 0 0 4 (by first | omega | (have := List.length_drop (i := 1) (l := xs); omega))), (6, fdR hq0.1 0 (0 * 4) 1 (by first | omega | (have := List.length_drop (i := 1) (l := xs); omega))), (7, gtR kPp hq0.1 0 0 1 (by first | omega | (have := List.length_drop (i := 1) (l := xs); omega))), (12, .l 1), (14, ixR hq0.1 0 0 4 (by first | omega | (have := List.length_drop (i := 1) (l := xs); omega))), (15, fdR hq0.1 0 (0 * 4) 3 (by first | omega | (have := List.length_drop (i := 1) (l := xs); omega))), (16, gtR kPp hq0.1 0 0 3 (by first | omega | (have := List.length_drop (i := 1) (l := xs); omega)))] [(4, .bool (((kb2 xs k) && ((((xs.drop 1).getD k zPp).x1) == ((xs.getD 0 zPp).x1))) && ((((xs.drop 1).getD k zPp).x3) == ((xs.getD 0 zPp).x3))))] [] ?_
  refine r0 [(0, .t (tb (a := i6 (k : Int)) (b := i6 1) fun _ _ _ _ => bin_add_nat (a := k) (b := 1) (by first | omega | (have := List.length_drop (i := 1) (l := xs); omega))))] [(10, i6 ((k + 1 : Nat) : Int))] [] ?_
  exact le (k + 1) (by omega) (by omega) (by kernel_rfl) [0] (by kernel_rfl)
 refine lx ?_
 refine r0 [(1, lnR hq0.1 0)] [(53, .bool ((xs.length : Int) == 1))] [] ?_
 refine cEq (xs.length : Int) 1 (fun h12 dh12 => ?_) fun h12 dh12 => ?_
 ·refine r0 [] [(2, i6 1)] [] ?_
  exact lfV (i6 1) Env.zero (by first | exact congrArg (Value.int .i64) (knd_1 (by assumption)) | exact congrArg (Value.int .i64) (knd_2 (k := k) (by assumption) (by have := List.length_drop (i := 1) (l := xs); omega) (by assumption)) | exact congrArg (Value.int .i64) (knd_3 (k := k) (by assumption) (by have := List.length_drop (i := 1) (l := xs); omega) (by assumption) (by assumption)) | exact congrArg (Value.int .i64) (knd_4 (k := k) (by assumption) (by have := List.length_drop (i := 1) (l := xs); omega) (by assumption) (by assumption))) [] [(0, 0)] []
 refine r0 [] [(57, .bool (kb1 xs k))] [] ?_
 refine cB (kb1 xs k) (fun h15 => ?_) fun h15 => ?_
 ·refine r0 [] [(2, i6 2)] [] ?_
  exact lfV (i6 2) Env.zero (by first | exact congrArg (Value.int .i64) (knd_1 (by assumption)) | exact congrArg (Value.int .i64) (knd_2 (k := k) (by assumption) (by have := List.length_drop (i := 1) (l := xs); omega) (by assumption)) | exact congrArg (Value.int .i64) (knd_3 (k := k) (by assumption) (by have := List.length_drop (i := 1) (l := xs); omega) (by assumption) (by assumption)) | exact congrArg (Value.int .i64) (knd_4 (k := k) (by assumption) (by have := List.length_drop (i := 1) (l := xs); omega) (by assumption) (by assumption))) [] [(0, 0)] []
 refine r0 [] [(59, .bool (kb2 xs k))] [] ?_
 refine cB (kb2 xs k) (fun h18 => ?_) fun h18 => ?_
 ·refine r0 [] [(2, i6 3)] [] ?_
  exact lfV (i6 3) Env.zero (by first | exact congrArg (Value.int .i64) (knd_1 (by assumption)) | exact congrArg (Value.int .i64) (knd_2 (k := k) (by assumption) (by have := List.length_drop (i := 1) (l := xs); omega) (by assumption)) | exact congrArg (Value.int .i64) (knd_3 (k := k) (by assumption) (by have := List.length_drop (i := 1) (l := xs); omega) (by assumption) (by assumption)) | exact congrArg (Value.int .i64) (knd_4 (k := k) (by assumption) (by have := List.length_drop (i := 1) (l := xs); omega) (by assumption) (by assumption))) [] [(0, 0)] []
 refine r0 [] [(2, i6 4)] [] ?_
 exact lfV (i6 4) Env.zero (by first | exact congrArg (Value.int .i64) (knd_1 (by assumption)) | exact congrArg (Value.int .i64) (knd_2 (k := k) (by assumption) (by have := List.length_drop (i := 1) (l := xs); omega) (by assumption)) | exact congrArg (Value.int .i64) (knd_3 (k := k) (by assumption) (by have := List.length_drop (i := 1) (l := xs); omega) (by assumption) (by assumption)) | exact congrArg (Value.int .i64) (knd_4 (k := k) (by assumption) (by have := List.length_drop (i := 1) (l := xs); omega) (by assumption) (by assumption))) [] [(0, 0)] []
/-- Is a place one of the first ones? -/
def knP (P : List Pp) (s : Sn) (b : Bool) : Nat → Bool
  | 0 => b
  | j + 1 => knP P s b j || (((P.getD j zPp).x0 == s.x0) && (((P.getD j zPp).x1 == s.x1) && (((P.getD j zPp).x2 == s.x2) && ((P.getD j zPp).x3 == s.x3 && true))))
def knS (P : List Pp) (s : Sn) (r c : Int) (j : Nat) : Bool := knP P s ((s.x0 != r) || (s.x4 != c)) j
def plR (xs : List Sn) (r c : Int) : Nat → List Pp
  | 0 => []
  | k + 1 => bif knS (plR xs r c k) (xs.getD k zSn) r c (plR xs r c k).length then plR xs r c k else plR xs r c k ++ [⟨(xs.getD k zSn).x0, (xs.getD k zSn).x1, (xs.getD k zSn).x2, (xs.getD k zSn).x3⟩]
attribute [local irreducible] plR
end Go.Proofs.Ytdglhppcfdpcaaa.E
