/- Chips: faults put behind others; slices of faults. -/
import Derived.Test.YtckhkagkpldoiaaEeE
import Derived.WalkKit
import Derived.Sort.CutIn
import Derived.IntWalk
namespace Go.Proofs.Ytckhkagkpldoiaa.E
open Go Go.RowKit Go.Shelf
attribute [local go_sem] Oper.semAt_some
set_option linter.unusedVariables false
set_option linter.unusedSimpArgs false


structure Fa where
  x0 : Int
  x1 : Int
  x2 : Int
  x3 : Int
  x4 : Int
  x5 : Int
  x6 : Int
  x7 : Int
def eFa (f : Fa) : List Value := [.int .i64 f.x0, .int .i64 f.x1, .int .i64 f.x2, .int .i64 f.x3, .int .i64 f.x4, .int .i64 f.x5, .int .i64 f.x6, .int .i64 f.x7]
def zFa : Fa := ⟨0, 0, 0, 0, 0, 0, 0, 0⟩
abbrev slFa (v : Value) (xs : List Fa) : Ent := .p (SlE eFa [.int .i64 0, .int .i64 0, .int .i64 0, .int .i64 0, .int .i64 0, .int .i64 0, .int .i64 0, .int .i64 0] 25 v xs)
theorem slTFa : SlT Try.prog 39 25 [.int .i64 0, .int .i64 0, .int .i64 0, .int .i64 0, .int .i64 0, .int .i64 0, .int .i64 0, .int .i64 0] := SlT.mk' (by kernel_rfl) (by kernel_rfl) rfl
theorem h1Fa : ∀ y, ∀ u ∈ eFa y, u.oneCell' = true := fun y u hu => by
  simp only [eFa, List.mem_cons, List.not_mem_nil, or_false] at hu
  rcases hu with rfl | rfl | rfl | rfl | rfl | rfl | rfl | rfl <;> rfl
set_option maxRecDepth 100000 in
set_option maxHeartbeats 1000000 in
theorem cl0 (c : Nat) : Con Try.prog 77 #[.slice none 0 c] [] [] (fun _ => []) (fun _ => .slice none 0 0) := by
 refine Con.of (enters_of Try.func77 (by kernel_rfl) rfl) fun w cs HS HH OW => ?_
 refine (callsIn_wide (n := 6)).1 ?_
 refine callsIn_of_wp_marks Try.func77 rfl trivial ?_ rfl
 simp only [Try.ntmps77, eF, Nat.reduceAdd, Nat.reduceSub]
 gi_upto_region 0 with fail
 refine rg (fun q1 => [.v (.slice none 0 0)]) (fun _ L => L) OW ?_
 clear OW; intro q1 _ Wq1 OW; simp only [↓pc, ↓pn, vE, Hint.val, Act.put, eL]
 gi_upto_region 1 with fail
 refine rg (fun q2 => [.v (.slice none 0 c),
  .v (.bool true)]) (fun _ L => L) OW ?_
 clear OW; intro q2 _ Wq2 OW; simp only [↓pc, ↓pn, vE, Hint.val, Act.put, eL]
 gi_upto_region 2 with fail
 refine rg (fun q3 => [.v (.slice none 0 0)]) (fun _ L => L) OW ?_
 clear OW; intro q3 _ Wq3 OW; simp only [↓pc, ↓pn, vE, Hint.val, Act.put, eL]
 gi_wp2
 exact leafE HS HH OW [.t (.slice none 0 0)] Env.zero [] [] rfl
set_option maxRecDepth 100000 in
set_option maxHeartbeats 1000000 in
theorem cl2 (A : Addr) (n c : Nat) (ys : List Fa) (hn : ys.length ≤ 1000000) (bs : Objs) (h : SrE eFa (.slice (some A) n c) ys bs) : Con Try.prog 77 #[.slice (some A) n c] [.c bs] [] (fun E => [slFa (E.val 0) (([]) ++ ys)]) (fun E => (E.val 0)) := by
 refine Con.of (enters_of Try.func77 (by kernel_rfl) rfl) fun w cs HS HH OW => ?_
 refine (callsIn_wide (n := 6)).1 ?_
 refine callsIn_of_wp_marks Try.func77 rfl trivial ?_ rfl
 simp only [Try.ntmps77, eF, Nat.reduceAdd, Nat.reduceSub]
 gi_upto_region 0 with fail
 refine rg (fun q1 => [.v (.slice none 0 0)]) (fun _ L => L) OW ?_
 clear OW; intro q1 _ Wq1 OW; simp only [↓pc, ↓pn, vE, Hint.val, Act.put, eL]
 gi_upto_region 1 with fail
 refine rg (fun q2 => [.v (.slice (some A) n c),
  .v (.bool false)]) (fun _ L => L) OW ?_
 clear OW; intro q2 _ Wq2 OW; simp only [↓pc, ↓pn, vE, Hint.val, Act.put, eL]
 gi_upto_region 3 with fail
 refine rg (fun q3 => [.m (bs0 1 eFa [.int .i64 0, .int .i64 0, .int .i64 0, .int .i64 0, .int .i64 0, .int .i64 0, .int .i64 0, .int .i64 0] 25),
  .v (.slice (some A) n c),
  .m (apS 1 0 slTFa (.slice (some ⟨(q3 0).blk 0, 0, none⟩) 0 0) (.slice (some A) n c) (xs := []) (ys := ys) (.c bs) (cP h) h1Fa (fun _ => rfl) (by simp only [List.length_set, List.length_append, List.length_replicate, List.length_cons, List.length_nil, List.length_map, List.length_range, List.length_take, List.length_drop]; omega)),
  .v ((q3 2).val 0)]) (fun q3 L => L ++ [slFa ((q3 2).val 0) (([]) ++ ys)]) OW ?_
 clear OW; intro q3 _ Wq3 OW; simp only [↓pc, ↓pn, vE, Hint.val, Act.put, eL]
 gi_wp2
 exact leafE HS HH OW [.t ((q3 2).val 0)] (.l [] [] [(q3 2).val 0]) [1] [(0, 0)] rfl
/-- A copy of what can be read. -/
theorem clB (u : Value) (ys : List Fa) (hn : ys.length ≤ 1000000) (bs : Objs) (h : SrE eFa u ys bs) : Con Try.prog 77 #[u] [.c bs] [] (fun E => [slFa (E.val 0) ys]) (fun E => E.val 0) := by
  refine ⟨enters_of Try.func77 (by kernel_rfl) rfl, fun w cs hs hh => ?_⟩
  have hf : ∃ a n c, u = .slice a n c ∧ (a = none → ys = [] ∧ n = 0) := by
    rcases h with ⟨h1, a, c, h2⟩ | ⟨g, off, _, _, _, c, h2, _⟩
    · exact ⟨a, 0, c, h2, fun _ => ⟨h1, rfl⟩⟩
    · exact ⟨_, _, _, h2, fun h => by cases h⟩
  obtain ⟨a, n, c, rfl, hz⟩ := hf
  cases a with
  | none =>
    obtain ⟨rfl, rfl⟩ := hz rfl
    refine (callsIn_wide (n := 6)).1 ((callsIn_wide.2 ((cl0 c).out w [] trivial ⟨fun _ h => by simp at h, List.Pairwise.nil⟩)).mono ?_)
    rintro e w' ⟨E, ds, rfl, h1, h2⟩
    rw [satL_nil h1] at h2
    exact ⟨Env.ov (.slice none 0 0), [[]], rfl, ⟨SlE.nil none, trivial⟩, by simpa using h2⟩
  | some A => exact (cl2 A n c ys hn bs h).out w cs hs hh
theorem clTFa (v : Value) (xs : List Fa) (hn : xs.length ≤ 1000000) (l : Nat) (hl : l ≤ xs.length) : Con Try.prog 77 #[sbV v l xs.length 8] [slFa v xs] [] (fun E => [slFa (E.val 0) (xs.drop l)]) (fun E => E.val 0) :=
  Con.ro 0 rfl (fun bs h => clB _ (xs.drop l) (by rw [List.length_drop]; omega) bs (by have := h.part (k := 8) (fun _ => rfl) hl (Nat.le_refl _); rwa [List.take_length] at this)) (enters_of Try.func77 (by kernel_rfl) rfl)
def dadd_0 (xs : List Fa) : Int := (bif decide (256 ≤ (xs.length : Int)) then 14 else 0)
def dadd_1 (xs : List Fa) (f : Fa) : List Fa := (bif decide (256 ≤ (xs.length : Int)) then xs else xs ++ ([f]))
set_option maxRecDepth 100000 in
set_option maxHeartbeats 1000000 in
theorem dadd (v : Value) (xs : List Fa) (f : Fa) : Con Try.prog 76 #[v, .agg #[.int .i64 f.x0, .int .i64 f.x1, .int .i64 f.x2, .int .i64 f.x3, .int .i64 f.x4, .int .i64 f.x5, .int .i64 f.x6, .int .i64 f.x7]] [slFa v xs] [0] (fun E => [slFa (E.val 0) (dadd_1 xs f)]) (fun E => .tuple #[(E.val 0), .int .i64 (dadd_0 xs)]) := by
 refine Con.of (enters_of Try.func76 (by kernel_rfl) rfl) fun w cs HS HH OW => ?_
 refine (callsIn_wide (n := 6)).1 ?_
 refine callsIn_of_wp_marks Try.func76 rfl trivial ?_ rfl
 simp only [Try.ntmps76, eF, Nat.reduceAdd, Nat.reduceSub]
 gi_upto_region 0 with fail
 refine rg (fun q1 => [.m (bx 1),
  .v (.slice none 0 0),
  .v (.int .i64 0)]) (fun q1 L => L ++ [ob ((q1 0).blk 0) #[.int .i64 f.x0, .int .i64 f.x1, .int .i64 f.x2, .int .i64 f.x3, .int .i64 f.x4, .int .i64 f.x5, .int .i64 f.x6, .int .i64 f.x7] 25]) OW ?_
 clear OW; intro q1 _ Wq1 OW; simp only [↓pc, ↓pn, vE, Hint.val, Act.put, eL]
 gi_upto_region 1 with fail
 refine rg (fun q2 => [.v (v),
  .m (lenS 0 (slFa v xs) (fun _ h => h)),
  .v (.bool (decide (256 ≤ (xs.length : Int))))]) (fun _ L => L) OW ?_
 clear OW; intro q2 _ Wq2 OW; simp only [↓pc, ↓pn, vE, Hint.val, Act.put, eL]
 cases hB3 : (decide (256 ≤ (xs.length : Int)))
 case true =>
  have dhB3 := of_decide_eq_true hB3
  gi_upto_region 2 with fail
  refine rg (fun q4 => [.v (v),
   .v (v),
   .v (.int .i64 14)]) (fun _ L => L) OW ?_
  clear OW; intro q4 _ Wq4 OW; simp only [↓pc, ↓pn, vE, Hint.val, Act.put, eL]
  gi_wp2
  exact leafE HS HH OW [.t (v), .t (.int .i64 14)] (.l [] [] [v]) [0] [] (by (try simp only [dadd_0, dadd_1]); (repeat (first | rw [hB3] | rw [cond_true] | rw [cond_false])); first | rfl | kernel_rfl) (by kernel_rfl) (by (try simp only [dadd_0, dadd_1]); (repeat (first | rw [hB3] | rw [cond_true] | rw [cond_false])); kernel_rfl)
 have dhB3 := of_decide_eq_false hB3
 gi_upto_region 3 with fail
 refine rg (fun q5 => [.v (v),
  .m (ls 1 ([.int .i64 f.x0, .int .i64 f.x1, .int .i64 f.x2, .int .i64 f.x3, .int .i64 f.x4, .int .i64 f.x5, .int .i64 f.x6, .int .i64 f.x7])),
  .m (bs 2 1),
  .m (apB 0 2 slTFa (v) (xs := xs) (ys := [f]) h1Fa (fun _ => rfl) (by simp only [List.length_set, List.length_append, List.length_replicate, List.length_cons, List.length_nil, List.length_map, List.length_range, List.length_take, List.length_drop]; omega)),
  .v ((q5 3).val 0),
  .v (.int .i64 0)]) (fun q5 L => L.set 0 (slFa ((q5 3).val 0) (xs ++ ([f]))) ++ [ob ((q5 2).blk 0) #[.int .i64 f.x0, .int .i64 f.x1, .int .i64 f.x2, .int .i64 f.x3, .int .i64 f.x4, .int .i64 f.x5, .int .i64 f.x6, .int .i64 f.x7] 25]) OW ?_
 clear OW; intro q5 _ Wq5 OW; simp only [↓pc, ↓pn, vE, Hint.val, Act.put, eL]
 gi_wp2
 exact leafE HS HH OW [.t ((q5 3).val 0), .t (.int .i64 0)] (.l [] [] [(q5 3).val 0]) [0] [] (by (try simp only [dadd_0, dadd_1]); (repeat (first | rw [hB3] | rw [cond_true] | rw [cond_false])); first | rfl | kernel_rfl) (by kernel_rfl) (by (try simp only [dadd_0, dadd_1]); (repeat (first | rw [hB3] | rw [cond_true] | rw [cond_false])); kernel_rfl)
end Go.Proofs.Ytckhkagkpldoiaa.E
