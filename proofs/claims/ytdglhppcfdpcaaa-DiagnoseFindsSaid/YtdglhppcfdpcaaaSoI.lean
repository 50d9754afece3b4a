/- Copies of slices of ints. -/
import Derived.Test.YtdglhppcfdpcaaaSoH
import Derived.Test.YtdglhppcfdpcaaaEv
import Derived.WalkKit
import Derived.Sort.CutIn
import Derived.IntWalk
namespace Go.Proofs.Ytdglhppcfdpcaaa.E
open Go Go.RowKit Go.Shelf
attribute [local go_sem] Oper.semAt_some
set_option linter.unusedVariables false
set_option linter.unusedSimpArgs false

set_option maxRecDepth 100000 in
set_option maxHeartbeats 1000000 in
theorem cl0I (c : Nat) : Con Try.prog 19 #[.slice none 0 c] [] [] (fun _ => []) (fun _ => .slice none 0 0) := by
 refine Con.of (enters_of Try.func19 (by kernel_rfl) rfl) fun w cs HS HH OW => ?_
 refine (callsIn_wide (n := 6)).1 ?_
 refine callsIn_of_wp_marks Try.func19 rfl trivial ?_ rfl
 simp only [Try.ntmps19, eF, Nat.reduceAdd, Nat.reduceSub]
 gi_upto_region 0 with fail
 refine rg (fun q1 => [.v (.slice none 0 0)]) (fun _ L => L) OW ?_
 clear OW; intro q1 _ Wq1 OW; simp only [↓pc, ↓pn, vE, Hint.val, Act.put, eL]
 gi_upto_region 1 with fail
 refine rg (fun q2 => [.v (.slice none 0 c),
  .v (.bool true)]) (fun _ L => L) OW ?_
 clear OW; intro q2 _ Wq2 OW; simp only [↓pc, ↓pn, vE, Hint.val, Act.put, eL]
 gi_upto_region 2 with fail
 refine rg (fun q3 => [.v (.slice none 0 0)]) (fun _ L => L) OW ?_
 clear OW; intro q3 _ Wq3 OW; simp only [↓pc, ↓pn, vE, Hint.val, Act.put, eL]
 gi_wp2
 exact leafE HS HH OW [.t (.slice none 0 0)] Env.zero [] [] rfl
set_option maxRecDepth 100000 in
set_option maxHeartbeats 1000000 in
theorem cl2I (A : Addr) (n c : Nat) (ys : List Int) (hn : ys.length ≤ 1000000) (bs : Objs) (h : SrE eI (.slice (some A) n c) ys bs) : Con Try.prog 19 #[.slice (some A) n c] [.c bs] [] (fun E => [slI (E.val 0) (([]) ++ ys)]) (fun E => (E.val 0)) := by
 refine Con.of (enters_of Try.func19 (by kernel_rfl) rfl) fun w cs HS HH OW => ?_
 refine (callsIn_wide (n := 6)).1 ?_
 refine callsIn_of_wp_marks Try.func19 rfl trivial ?_ rfl
 simp only [Try.ntmps19, eF, Nat.reduceAdd, Nat.reduceSub]
 gi_upto_region 0 with fail
 refine rg (fun q1 => [.v (.slice none 0 0)]) (fun _ L => L) OW ?_
 clear OW; intro q1 _ Wq1 OW; simp only [↓pc, ↓pn, vE, Hint.val, Act.put, eL]
 gi_upto_region 1 with fail
 refine rg (fun q2 => [.v (.slice (some A) n c),
  .v (.bool false)]) (fun _ L => L) OW ?_
 clear OW; intro q2 _ Wq2 OW; simp only [↓pc, ↓pn, vE, Hint.val, Act.put, eL]
 gi_upto_region 3 with fail
 refine rg (fun q3 => [.m (bs0 1 eI [.int .i64 0] 3),
  .v (.slice (some A) n c),
  .m (apS 1 0 slTI (.slice (some ⟨(q3 0).blk 0, 0, none⟩) 0 0) (.slice (some A) n c) (xs := []) (ys := ys) (.c bs) (cP h) h1I (fun _ => rfl) (by simp only [List.length_set, List.length_append, List.length_replicate, List.length_cons, List.length_nil, List.length_map, List.length_range, List.length_take, List.length_drop]; omega)),
  .v ((q3 2).val 0)]) (fun q3 L => L ++ [slI ((q3 2).val 0) (([]) ++ ys)]) OW ?_
 clear OW; intro q3 _ Wq3 OW; simp only [↓pc, ↓pn, vE, Hint.val, Act.put, eL]
 gi_wp2
 exact leafE HS HH OW [.t ((q3 2).val 0)] (.l [] [] [(q3 2).val 0]) [1] [(0, 0)] rfl
/-- A copy of what can be read. -/
theorem clBI (u : Value) (ys : List Int) (hn : ys.length ≤ 1000000) (bs : Objs) (h : SrE eI u ys bs) : Con Try.prog 19 #[u] [.c bs] [] (fun E => [slI (E.val 0) ys]) (fun E => E.val 0) := by
  refine ⟨enters_of Try.func19 (by kernel_rfl) rfl, fun w cs hs hh => ?_⟩
  have hf : ∃ a n c, u = .slice a n c ∧ (a = none → ys = [] ∧ n = 0) := by
    rcases h with ⟨h1, a, c, h2⟩ | ⟨g, off, _, _, _, c, h2, _⟩
    · exact ⟨a, 0, c, h2, fun _ => ⟨h1, rfl⟩⟩
    · exact ⟨_, _, _, h2, fun h => by cases h⟩
  obtain ⟨a, n, c, rfl, hz⟩ := hf
  cases a with
  | none =>
    obtain ⟨rfl, rfl⟩ := hz rfl
    refine (callsIn_wide (n := 6)).1 ((callsIn_wide.2 ((cl0I c).out w [] trivial ⟨fun _ h => by simp at h, List.Pairwise.nil⟩)).mono ?_)
    rintro e w' ⟨E, ds, rfl, h1, h2⟩
    rw [satL_nil h1] at h2
    exact ⟨Env.ov (.slice none 0 0), [[]], rfl, ⟨SlE.nil none, trivial⟩, by simpa using h2⟩
  | some A => exact (cl2I A n c ys hn bs h).out w cs hs hh
theorem clI (v : Value) (xs : List Int) (hn : xs.length ≤ 1000000) : Con Try.prog 19 #[v] [slI v xs] [] (fun E => [slI (E.val 0) xs]) (fun E => E.val 0) :=
  Con.ro 0 rfl (fun bs h => clBI v xs hn bs h.src) (enters_of Try.func19 (by kernel_rfl) rfl)
theorem clTI (v : Value) (xs : List Int) (hn : xs.length ≤ 1000000) (l : Nat) (hl : l ≤ xs.length) : Con Try.prog 19 #[sbV v l xs.length 1] [slI v xs] [] (fun E => [slI (E.val 0) (xs.drop l)]) (fun E => E.val 0) :=
  Con.ro 0 rfl (fun bs h => clBI _ (xs.drop l) (by rw [List.length_drop]; omega) bs (by have := h.part (k := 1) (fun _ => rfl) hl (Nat.le_refl _); rwa [List.take_length] at this)) (enters_of Try.func19 (by kernel_rfl) rfl)
/-- The first part of what is read, copied. -/
theorem clHI (u : Value) (ys : List Int) (hn : ys.length ≤ 1000000) (m : Nat) (hm : m ≤ ys.length) (bs : Objs) (h : SqE eI u ys bs) : Con Try.prog 19 #[sbV u 0 m 1] [.c bs] [] (fun E => [slI (E.val 0) (ys.take m)]) (fun E => E.val 0) :=
  clBI _ (ys.take m) (by rw [List.length_take]; omega) bs (h.take (k := 1) (fun _ => rfl) hm).1
theorem clHQ (u : Value) (ys : List Int) (hn : ys.length ≤ 1000000) (m : Nat) (hm : m ≤ ys.length) : Con Try.prog 19 #[sbV u 0 m 1] [.p (SqE eI u ys)] [] (fun E => [slI (E.val 0) (ys.take m)]) (fun E => E.val 0) :=
  Con.ro 0 rfl (fun bs h => clHI u ys hn m hm bs h) (enters_of Try.func19 (by kernel_rfl) rfl)
end Go.Proofs.Ytdglhppcfdpcaaa.E