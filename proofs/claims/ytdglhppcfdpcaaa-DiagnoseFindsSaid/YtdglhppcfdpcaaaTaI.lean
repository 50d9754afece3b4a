/- Copies of slices of Seen. -/
import Derived.Test.YtdglhppcfdpcaaaTaH
import Derived.Test.YtdglhppcfdpcaaaEv
import Derived.WalkKit
import Derived.Sort.CutIn
import Derived.IntWalk
namespace Go.Proofs.Ytdglhppcfdpcaaa.E
open Go Go.RowKit Go.Shelf
attribute [local go_sem] Oper.semAt_some
set_option linter.unusedVariables false
set_option linter.unusedSimpArgs false

set_option maxRecDepth 100000 in
set_option maxHeartbeats 1000000 in
theorem cl0S (c : Nat) : Con Try.prog 50 #[.slice none 0 c] [] [] (fun _ => []) (fun _ => .slice none 0 0) := by
 refine Con.of (enters_of Try.func50 (by kernel_rfl) rfl) fun w cs HS HH OW => ?_
 refine (callsIn_wide (n := 6)).1 ?_
 refine callsIn_of_wp_marks Try.func50 rfl trivial ?_ rfl
 simp only [Try.ntmps50, eF, Nat.reduceAdd, Nat.reduceSub]
 gi_upto_region 0 with fail
 refine rg (fun q1 => [.v (.slice none 0 0)]) (fun _ L => L) OW ?_
 clear OW; intro q1 _ Wq1 OW; simp only [↓pc, ↓pn, vE, Hint.val, Act.put, eL]
 gi_upto_region 1 with fail
 refine rg (fun q2 => [.v (.slice none 0 c),
  .v (.bool true)]) (fun _ L => L) OW ?_
 clear OW; intro q2 _ Wq2 OW; simp only [↓pc, ↓pn, vE, Hint.val, Act.put, eL]
 gi_upto_region 2 with fail
 refine rg (fun q3 => [.v (.slice none 0 0)]) (fun _ L => L) OW ?_
 clear OW; intro q3 _ Wq3 OW; simp only [↓pc, ↓pn, vE, Hint.val, Act.put, eL]
 gi_wp2
 exact leafE HS HH OW [.t (.slice none 0 0)] Env.zero [] [] rfl
set_option maxRecDepth 100000 in
set_option maxHeartbeats 1000000 in
theorem cl2S (A : Addr) (n c : Nat) (ys : List Sn) (hn : ys.length ≤ 1000000) (bs : Objs) (h : SrE eSn (.slice (some A) n c) ys bs) : Con Try.prog 50 #[.slice (some A) n c] [.c bs] [] (fun E => [slSn (E.val 0) (([]) ++ ys)]) (fun E => (E.val 0)) := by
 refine Con.of (enters_of Try.func50 (by kernel_rfl) rfl) fun w cs HS HH OW => ?_
 refine (callsIn_wide (n := 6)).1 ?_
 refine callsIn_of_wp_marks Try.func50 rfl trivial ?_ rfl
 simp only [Try.ntmps50, eF, Nat.reduceAdd, Nat.reduceSub]
 gi_upto_region 0 with fail
 refine rg (fun q1 => [.v (.slice none 0 0)]) (fun _ L => L) OW ?_
 clear OW; intro q1 _ Wq1 OW; simp only [↓pc, ↓pn, vE, Hint.val, Act.put, eL]
 gi_upto_region 1 with fail
 refine rg (fun q2 => [.v (.slice (some A) n c),
  .v (.bool false)]) (fun _ L => L) OW ?_
 clear OW; intro q2 _ Wq2 OW; simp only [↓pc, ↓pn, vE, Hint.val, Act.put, eL]
 gi_upto_region 3 with fail
 refine rg (fun q3 => [.m (bs0 1 eSn [.int .i64 0, .int .i64 0, .int .i64 0, .int .i64 0, .int .i64 0] 34),
  .v (.slice (some A) n c),
  .m (apS 1 0 slTSn (.slice (some ⟨(q3 0).blk 0, 0, none⟩) 0 0) (.slice (some A) n c) (xs := []) (ys := ys) (.c bs) (cP h) h1Sn (fun _ => rfl) (by simp only [List.length_set, List.length_append, List.length_replicate, List.length_cons, List.length_nil, List.length_map, List.length_range, List.length_take, List.length_drop]; omega)),
  .v ((q3 2).val 0)]) (fun q3 L => L ++ [slSn ((q3 2).val 0) (([]) ++ ys)]) OW ?_
 clear OW; intro q3 _ Wq3 OW; simp only [↓pc, ↓pn, vE, Hint.val, Act.put, eL]
 gi_wp2
 exact leafE HS HH OW [.t ((q3 2).val 0)] (.l [] [] [(q3 2).val 0]) [1] [(0, 0)] rfl
/-- A copy of what can be read. -/
theorem clBS (u : Value) (ys : List Sn) (hn : ys.length ≤ 1000000) (bs : Objs) (h : SrE eSn u ys bs) : Con Try.prog 50 #[u] [.c bs] [] (fun E => [slSn (E.val 0) ys]) (fun E => E.val 0) := by
  refine ⟨enters_of Try.func50 (by kernel_rfl) rfl, fun w cs hs hh => ?_⟩
  have hf : ∃ a n c, u = .slice a n c ∧ (a = none → ys = [] ∧ n = 0) := by
    rcases h with ⟨h1, a, c, h2⟩ | ⟨g, off, _, _, _, c, h2, _⟩
    · exact ⟨a, 0, c, h2, fun _ => ⟨h1, rfl⟩⟩
    · exact ⟨_, _, _, h2, fun h => by cases h⟩
  obtain ⟨a, n, c, rfl, hz⟩ := hf
  cases a with
  | none =>
    obtain ⟨rfl, rfl⟩ := hz rfl
    refine (callsIn_wide (n := 6)).1 ((callsIn_wide.2 ((cl0S c).out w [] trivial ⟨fun _ h => by simp at h, List.Pairwise.nil⟩)).mono ?_)
    rintro e w' ⟨E, ds, rfl, h1, h2⟩
    rw [satL_nil h1] at h2
    exact ⟨Env.ov (.slice none 0 0), [[]], rfl, ⟨SlE.nil none, trivial⟩, by simpa using h2⟩
  | some A => exact (cl2S A n c ys hn bs h).out w cs hs hh
theorem clS (v : Value) (xs : List Sn) (hn : xs.length ≤ 1000000) : Con Try.prog 50 #[v] [slSn v xs] [] (fun E => [slSn (E.val 0) xs]) (fun E => E.val 0) :=
  Con.ro 0 rfl (fun bs h => clBS v xs hn bs h.src) (enters_of Try.func50 (by kernel_rfl) rfl)
theorem clTS (v : Value) (xs : List Sn) (hn : xs.length ≤ 1000000) (l : Nat) (hl : l ≤ xs.length) : Con Try.prog 50 #[sbV v l xs.length 5] [slSn v xs] [] (fun E => [slSn (E.val 0) (xs.drop l)]) (fun E => E.val 0) :=
  Con.ro 0 rfl (fun bs h => clBS _ (xs.drop l) (by rw [List.length_drop]; omega) bs (by have := h.part (k := 5) (fun _ => rfl) hl (Nat.le_refl _); rwa [List.take_length] at this)) (enters_of Try.func50 (by kernel_rfl) rfl)
/-- The first part of what is read, copied. -/
theorem clHS (u : Value) (ys : List Sn) (hn : ys.length ≤ 1000000) (m : Nat) (hm : m ≤ ys.length) (bs : Objs) (h : SqE eSn u ys bs) : Con Try.prog 50 #[sbV u 0 m 5] [.c bs] [] (fun E => [slSn (E.val 0) (ys.take m)]) (fun E => E.val 0) :=
  clBS _ (ys.take m) (by rw [List.length_take]; omega) bs (h.take (k := 5) (fun _ => rfl) hm).1
theorem clHQS (u : Value) (ys : List Sn) (hn : ys.length ≤ 1000000) (m : Nat) (hm : m ≤ ys.length) : Con Try.prog 50 #[sbV u 0 m 5] [.p (SqE eSn u ys)] [] (fun E => [slSn (E.val 0) (ys.take m)]) (fun E => E.val 0) :=
  Con.ro 0 rfl (fun bs h => clHS u ys hn m hm bs h) (enters_of Try.func50 (by kernel_rfl) rfl)
end Go.Proofs.Ytdglhppcfdpcaaa.E
