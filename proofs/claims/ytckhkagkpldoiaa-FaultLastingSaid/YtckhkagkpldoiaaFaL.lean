/- FaultLasting: the faults that last, one by one. -/
import Derived.Test.YtckhkagkpldoiaaDrA
import Derived.Test.YtckhkagkpldoiaaEs
import Derived.Test.YtckhkagkpldoiaaEeE
import Derived.Test.YtckhkagkpldoiaaCovA
import Derived.WalkKit
import Derived.Sort.CutIn
import Derived.IntWalk
namespace Go.Proofs.Ytckhkagkpldoiaa.E
open Go Go.RowKit Go.Shelf
attribute [local go_sem] Oper.semAt_some
set_option linter.unusedVariables false
set_option linter.unusedSimpArgs false

attribute [local irreducible] flasts
def lsO (fs : List Fa) (i : Nat) : Bool := flasts (fs.getD i zFa).x0 (fs.getD i zFa).x1 (fs.getD i zFa).x2 (fs.getD i zFa).x3 (fs.getD i zFa).x4 (fs.getD i zFa).x5 (fs.getD i zFa).x6 (fs.getD i zFa).x7
/-- The places of those that last, among the first ones. -/
def lsI (fs : List Fa) : Nat → List Nat
  | 0 => []
  | n + 1 => lsI fs n ++ (bif lsO fs n then [n] else [])
theorem ls_t {fs : List Fa} {k : Nat} (h : lsO fs k = true) : (lsI fs k).length + 1 = (lsI fs (k + 1)).length := by
  rw [lsI, h, List.length_append]; rfl
theorem ls_0 (fs : List Fa) : (0 : Int) = (((lsI fs 0).length : Nat) : Int) := rfl
theorem ls_f {fs : List Fa} {k : Nat} (h : lsO fs k = false) : (lsI fs k).length = (lsI fs (k + 1)).length := by
  rw [lsI, h, List.length_append]; rfl
theorem ls_le (fs : List Fa) : ∀ k, (lsI fs k).length ≤ k
  | 0 => Nat.le_refl _
  | k + 1 => by
    have := ls_le fs k
    cases h : lsO fs k
    · rw [← ls_f h]; omega
    · rw [← ls_t h]; omega
theorem ls_mem {fs : List Fa} : ∀ {n i : Nat}, i ∈ lsI fs n → i < n ∧ lsO fs i = true
  | 0, i, h => by simp [lsI] at h
  | n + 1, i, h => by
    rw [lsI, List.mem_append] at h
    rcases h with h | h
    · have := ls_mem h; exact ⟨by omega, this.2⟩
    · cases hc : lsO fs n
      · rw [hc] at h; simp at h
      · rw [hc] at h
        obtain rfl : i = n := by simpa using h
        exact ⟨by omega, hc⟩
theorem ls_get {fs : List Fa} {k : Nat} (hc : lsO fs k = true) : ∀ {n : Nat}, k < n → (lsI fs n)[(lsI fs k).length]? = some k
  | n + 1, h => by
    rw [lsI]
    by_cases e : k = n
    · subst e
      rw [List.getElem?_append_right (Nat.le_refl _), hc, Nat.sub_self]
      rfl
    · have h1 := ls_get hc (n := n) (by omega)
      rw [List.getElem?_append_left (List.getElem?_eq_some_iff.1 h1).1]
      exact h1
theorem ls_up (fs : List Fa) : ∀ n, (lsI fs n).Pairwise (· < ·)
  | 0 => List.Pairwise.nil
  | n + 1 => by
    rw [lsI]
    refine List.pairwise_append.2 ⟨ls_up fs n, ?_, fun a ha b hb => ?_⟩
    · cases lsO fs n <;> simp
    · have h1 := (ls_mem ha).1
      cases hc : lsO fs n
      · rw [hc] at hb; simp at hb
      · rw [hc] at hb
        obtain rfl : b = n := by simpa using hb
        exact h1
/-- The one that was seen last. -/
def lsV (fs : List Fa) : Nat → Int
  | 0 => -1
  | k + 1 => (((lsI fs fs.length).getD k 0 : Nat) : Int)
theorem ls_at {fs : List Fa} {k : Nat} (hk : k < (lsI fs fs.length).length) : (lsI fs fs.length).getD k 0 < fs.length ∧ lsV fs k < (((lsI fs fs.length).getD k 0 : Nat) : Int) ∧ 2 ≤ (fs.getD ((lsI fs fs.length).getD k 0) zFa).x0 ∧ (fs.getD ((lsI fs fs.length).getD k 0) zFa).x0 ≤ 5 := by
  have hg : ∀ {j : Nat} (h : j < (lsI fs fs.length).length), (lsI fs fs.length).getD j 0 = (lsI fs fs.length)[j] := fun h => by rw [List.getD_eq_getElem?_getD, List.getElem?_eq_getElem h]; rfl
  have hm : (lsI fs fs.length).getD k 0 ∈ lsI fs fs.length := by rw [hg hk]; exact List.getElem_mem hk
  obtain ⟨h1, h2⟩ := ls_mem hm
  unfold lsO flasts at h2
  simp only [Bool.and_eq_true, decide_eq_true_eq] at h2
  refine ⟨h1, ?_, h2⟩
  cases k with
  | zero => show (-1 : Int) < _; omega
  | succ j =>
    show ((((lsI fs fs.length).getD j 0 : Nat)) : Int) < _
    rw [hg hk, hg (by omega : j < _)]
    have := List.pairwise_iff_getElem.1 (ls_up fs fs.length) j (j + 1) (by omega) hk (by omega)
    omega
theorem ls_tI {fs : List Fa} {k : Nat} (h : (decide (2 ≤ (fs.getD k zFa).x0) && decide ((fs.getD k zFa).x0 ≤ 5)) = true) : (((lsI fs k).length : Nat) : Int) + 1 = (((lsI fs (k + 1)).length : Nat) : Int) := by
  rw [← ls_t (show lsO fs k = true by unfold lsO flasts; exact h)]; rfl
theorem ls_fI {fs : List Fa} {k : Nat} (h : (decide (2 ≤ (fs.getD k zFa).x0) && decide ((fs.getD k zFa).x0 ≤ 5)) = false) : (((lsI fs k).length : Nat) : Int) = (((lsI fs (k + 1)).length : Nat) : Int) := by
  rw [← ls_f (show lsO fs k = false by unfold lsO flasts; exact h)]
set_option maxRecDepth 100000 in
set_option maxHeartbeats 1000000 in
theorem fLast1 (m : Nat) (h1 : 1 ≤ m) (g : Nat) (v : Value) (fs : List Fa) (hfs : fs.length ≤ 1000000) (bs : Objs) (h : SrE eFa v fs bs) : IterE m Try.prog 69 #[.pointer (some ⟨g, 0, none⟩)] (fun (i : Nat) => #[.int .i64 ((i : Nat) : Int), .agg #[.int .i64 (fs.getD i zFa).x0, .int .i64 (fs.getD i zFa).x1, .int .i64 (fs.getD i zFa).x2, .int .i64 (fs.getD i zFa).x3, .int .i64 (fs.getD i zFa).x4, .int .i64 (fs.getD i zFa).x5, .int .i64 (fs.getD i zFa).x6, .int .i64 (fs.getD i zFa).x7]]) (lsI fs fs.length) (List.flatten [[(g, .cells #[v] 39 (0, 0))], bs]) := by
 refine iterE_of2 ?_
 intro lY JY JX WI KX NX hJ hKX hNX HY HI0
 obtain ⟨RI, HI, OW⟩ := ItL.start (Os := [[(g, .cells #[v] 39 (0, 0))], bs]) (ItL.zero HI0.out)
 clear HI0
 replace OW := Lib.hid (OwnE.cast (L' := [ob g #[v] 39, .c bs]) OW.out (by kernel_rfl))
 refine callsIn_of_wp Try.func69 rfl trivial ?_ rfl
 simp only [Try.ntmps69, eF, Nat.reduceAdd, Nat.reduceSub]
 gi_upto_region 0 with fail
 refine rg (fun q1 => [.m (ld 0 (v)),
  .m (lenR 1 (.c bs) (cP h)),
  .v (.int .i64 0)]) (fun _ L => L) OW ?_
 clear OW; intro q1 _ Wq1 OW; simp only [↓pc, ↓pn, vE, Hint.val, Act.put, eL]
 gi_wp2
 gi_loopw [7] (fun z7 wr => ∃ k : Nat, k ≤ fs.length ∧ z7 = .int .i64 (k : Int) ∧ ItL JY [[(g, .cells #[v] 39 (0, 0))], bs] WI [] ((lsI fs k).length) wr) (fun z7 _ => fs.length - (intOf (z7)).toNat)
 case atStart => exact ⟨0, by omega, rfl, (ItL.count (by skip; exact ItC.step (Os := [[(g, .cells #[v] 39 (0, 0))], bs]) (LE := []) HI hJ (OwnE.cast OW.out (by kernel_rfl))) (by rfl))⟩
 case round =>
  obtain ⟨k, hk2, rfl, hI⟩ := hrel
  clear OW HI
  obtain ⟨R3, HI4, OW⟩ := ItL.start (Os := [[(g, .cells #[v] 39 (0, 0))], bs]) (LE := []) (hI)
  replace OW := Lib.hid (OwnE.cast (L' := [ob g #[v] 39, .c bs]) OW.out (by kernel_rfl))
  clear hI
  gi_upto_region 1 with fail
  refine rg (fun q5 => [.v (.bool (decide ((k : Int) < (fs.length : Int))))]) (fun _ L => L) OW ?_
  clear OW; intro q5 _ Wq5 OW; simp only [↓pc, ↓pn, vE, Hint.val, Act.put, eL]
  cases hB6 : (decide ((k : Int) < (fs.length : Int)))
  case true =>
   have dhB6 := of_decide_eq_true hB6
   gi_upto_region 2 with fail
   refine rg (fun q7 => [.v (.int .i64 (k : Int)),
    .m (idxR 1 (.c bs) k 8 (cP h) (by omega)),
    .m (lsR (l := [.int .i64 ((fs.getD k zFa).x0), .int .i64 ((fs.getD k zFa).x1), .int .i64 ((fs.getD k zFa).x2), .int .i64 ((fs.getD k zFa).x3), .int .i64 ((fs.getD k zFa).x4), .int .i64 ((fs.getD k zFa).x5), .int .i64 ((fs.getD k zFa).x6), .int .i64 ((fs.getD k zFa).x7)]) (d := zFa) 1 (.c bs) k 8 0 (cP h) (fun _ => rfl) (by omega) (Nat.le_of_ble_eq_true rfl) (by kernel_rfl)),
    .m (al 2),
    .v (.int .i64 (k : Int)),
    .m (ss 2)]) (fun q7 L => L ++ [ob ((q7 3).blk 0) #[.int .i64 ((fs.getD k zFa).x0), .int .i64 ((fs.getD k zFa).x1), .int .i64 ((fs.getD k zFa).x2), .int .i64 ((fs.getD k zFa).x3), .int .i64 ((fs.getD k zFa).x4), .int .i64 ((fs.getD k zFa).x5), .int .i64 ((fs.getD k zFa).x6), .int .i64 ((fs.getD k zFa).x7)] 25]) OW ?_
   clear OW; intro q7 _ Wq7 OW; simp only [↓pc, ↓pn, vE, Hint.val, Act.put, eL]
   gi_upto_region 3 with fail
   cases hB8 : (flasts ((fs.getD k zFa).x0) ((fs.getD k zFa).x1) ((fs.getD k zFa).x2) ((fs.getD k zFa).x3) ((fs.getD k zFa).x4) ((fs.getD k zFa).x5) ((fs.getD k zFa).x6) ((fs.getD k zFa).x7))
   case true =>
    gi_upto_region 3 with fail
    refine wpIn_region_eG 6 3 (fun q9 => [.m (ls 2 ([.int .i64 ((fs.getD k zFa).x0), .int .i64 ((fs.getD k zFa).x1), .int .i64 ((fs.getD k zFa).x2), .int .i64 ((fs.getD k zFa).x3), .int .i64 ((fs.getD k zFa).x4), .int .i64 ((fs.getD k zFa).x5), .int .i64 ((fs.getD k zFa).x6), .int .i64 ((fs.getD k zFa).x7)])),
     .c [] [] (Con.v ((conB (enters_of Try.func19 (by kernel_rfl) rfl) fun w' => (flasts_any ((fs.getD k zFa).x0) ((fs.getD k zFa).x1) ((fs.getD k zFa).x2) ((fs.getD k zFa).x3) ((fs.getD k zFa).x4) ((fs.getD k zFa).x5) ((fs.getD k zFa).x6) ((fs.getD k zFa).x7) _))) fun _ => congrArg Value.bool (show (flasts ((fs.getD k zFa).x0) ((fs.getD k zFa).x1) ((fs.getD k zFa).x2) ((fs.getD k zFa).x3) ((fs.getD k zFa).x4) ((fs.getD k zFa).x5) ((fs.getD k zFa).x6) ((fs.getD k zFa).x7)) = true from hB8)),
     .v (.bool true),
     .v (.func (.yield lY) #[] #[]),
     .v (.int .i64 (k : Int)),
     .m (ls 2 ([.int .i64 ((fs.getD k zFa).x0), .int .i64 ((fs.getD k zFa).x1), .int .i64 ((fs.getD k zFa).x2), .int .i64 ((fs.getD k zFa).x3), .int .i64 ((fs.getD k zFa).x4), .int .i64 ((fs.getD k zFa).x5), .int .i64 ((fs.getD k zFa).x6), .int .i64 ((fs.getD k zFa).x7)]))]) (fun _ L => L) OW (fun _ => by kernel_rfl) ?_
    clear OW; intro q9 ysq9 Wq9 HGq9 OW
    have hgq9_3 : ysq9 3 = .func (.yield lY) #[] #[] := (HGq9 3 (by kernel_rfl)).trans (by kernel_rfl)
    have hgq9_4 : ysq9 4 = .int .i64 (k : Int) := (HGq9 4 (by kernel_rfl)).trans (by kernel_rfl)
    have hgq9_5 : ysq9 5 = .agg #[.int .i64 ((fs.getD k zFa).x0), .int .i64 ((fs.getD k zFa).x1), .int .i64 ((fs.getD k zFa).x2), .int .i64 ((fs.getD k zFa).x3), .int .i64 ((fs.getD k zFa).x4), .int .i64 ((fs.getD k zFa).x5), .int .i64 ((fs.getD k zFa).x6), .int .i64 ((fs.getD k zFa).x7)] := (HGq9 5 (by kernel_rfl)).trans (by kernel_rfl)
    clear HGq9; simp only [↓pc, ↓pn, vE, Hint.val, Act.put, eL, Nat.reduceAdd, hgq9_3, hgq9_4, hgq9_5, List.take_succ_cons, List.take_zero, List.drop_succ_cons, List.drop_zero]; clear hgq9_3 hgq9_4 hgq9_5
    have hI10 := ItC.step (Os := [[(g, .cells #[v] 39 (0, 0))], bs]) (LE := [ob ((q7 3).blk 0) #[.int .i64 ((fs.getD k zFa).x0), .int .i64 ((fs.getD k zFa).x1), .int .i64 ((fs.getD k zFa).x2), .int .i64 ((fs.getD k zFa).x3), .int .i64 ((fs.getD k zFa).x4), .int .i64 ((fs.getD k zFa).x5), .int .i64 ((fs.getD k zFa).x6), .int .i64 ((fs.getD k zFa).x7)] 25]) HI4 hJ (OW.out)
    obtain ⟨dY, hsY, hIY⟩ := hI10
    have hg12 : (lsI fs fs.length)[(lsI fs k).length]? = some _ := ls_get (show lsO fs k = true by assumption) (show k < fs.length by omega)
    obtain ⟨fn, tmps, assign, body, hy11, hR⟩ := HY.out dY.flatten _ _ _ hg12 hIY
    clear OW HI4
    try dsimp only at hy11
    generalize hgen13 : fs.getD k zFa = gen14 at hy11 ⊢
    gi_wp2
    refine hR.mono ?_
    rintro e W15 (⟨rfl, hI3⟩ | ⟨rfl, Oy, hJx⟩)
    ·
     clear hy11 hR
     subst hgen13
     obtain ⟨R16, HI17, OW⟩ := ItL.start (Os := [[(g, .cells #[v] 39 (0, 0))], bs]) (LE := [ob ((q7 3).blk 0) #[.int .i64 ((fs.getD k zFa).x0), .int .i64 ((fs.getD k zFa).x1), .int .i64 ((fs.getD k zFa).x2), .int .i64 ((fs.getD k zFa).x3), .int .i64 ((fs.getD k zFa).x4), .int .i64 ((fs.getD k zFa).x5), .int .i64 ((fs.getD k zFa).x6), .int .i64 ((fs.getD k zFa).x7)] 25]) (⟨dY, hsY, hI3⟩)
     replace OW := Lib.hid (OwnE.cast (L' := [ob g #[v] 39, .c bs, ob ((q7 3).blk 0) #[.int .i64 ((fs.getD k zFa).x0), .int .i64 ((fs.getD k zFa).x1), .int .i64 ((fs.getD k zFa).x2), .int .i64 ((fs.getD k zFa).x3), .int .i64 ((fs.getD k zFa).x4), .int .i64 ((fs.getD k zFa).x5), .int .i64 ((fs.getD k zFa).x6), .int .i64 ((fs.getD k zFa).x7)] 25]) OW.out (by kernel_rfl))
     clear hI3
     gi_upto_region 4 with fail
     refine rg (fun q18 => [.t (tb (a := .int .i64 (k : Int)) (b := .int .i64 1) fun _ _ _ _ => bin_add_nat (a := k) (b := 1) (by omega)),
      .v (.int .i64 ((k + 1 : Nat) : Int))]) (fun _ L => L) OW ?_
     clear OW; intro q18 _ Wq18 OW; simp only [↓pc, ↓pn, vE, Hint.val, Act.put, eL]
     gi_wp2
     go_roundw
     case rel => exact ⟨k + 1, by omega, by go_num, (ItL.count (by skip; exact ItC.step (Os := [[(g, .cells #[v] 39 (0, 0))], bs]) (LE := []) HI17 hJ (OwnE.pick OW.out [0, 1] _ (by kernel_rfl))) (by first | exact ls_t (by assumption) | exact ls_f (by assumption)))⟩
     case measure => (simp [intOf] <;> omega)
    ·
     clear hy11 hR
     subst hgen13
     have HX := Lib.hid hJx
     clear hJx
     gi_wp2
     refine bodyPost_ret (results_none rfl _ _ _) rfl ?_
     exact ⟨⟨_, rfl⟩, .inr ⟨_, (by rw [hNX.out]; exact (List.getElem?_eq_some_iff.1 hg12).1), _, HX.out⟩⟩
   gi_upto_region 3 with fail
   refine rg (fun q19 => [.m (ls 2 ([.int .i64 ((fs.getD k zFa).x0), .int .i64 ((fs.getD k zFa).x1), .int .i64 ((fs.getD k zFa).x2), .int .i64 ((fs.getD k zFa).x3), .int .i64 ((fs.getD k zFa).x4), .int .i64 ((fs.getD k zFa).x5), .int .i64 ((fs.getD k zFa).x6), .int .i64 ((fs.getD k zFa).x7)])),
    .c [] [] (Con.v ((conB (enters_of Try.func19 (by kernel_rfl) rfl) fun w' => (flasts_any ((fs.getD k zFa).x0) ((fs.getD k zFa).x1) ((fs.getD k zFa).x2) ((fs.getD k zFa).x3) ((fs.getD k zFa).x4) ((fs.getD k zFa).x5) ((fs.getD k zFa).x6) ((fs.getD k zFa).x7) _))) fun _ => congrArg Value.bool (show (flasts ((fs.getD k zFa).x0) ((fs.getD k zFa).x1) ((fs.getD k zFa).x2) ((fs.getD k zFa).x3) ((fs.getD k zFa).x4) ((fs.getD k zFa).x5) ((fs.getD k zFa).x6) ((fs.getD k zFa).x7)) = false from hB8)),
    .v (.bool false),
    .d (.bool false),
    .d (.bool false),
    .d (.bool false),
    .d (.bool false),
    .d (.bool false),
    .k (.bool false)]) (fun _ L => L) OW ?_
   clear OW; intro q19 _ Wq19 OW; simp only [↓pc, ↓pn, vE, Hint.val, Act.put, eL]
   gi_upto_region 4 with fail
   refine rg (fun q20 => [.t (tb (a := .int .i64 (k : Int)) (b := .int .i64 1) fun _ _ _ _ => bin_add_nat (a := k) (b := 1) (by omega)),
    .v (.int .i64 ((k + 1 : Nat) : Int))]) (fun _ L => L) OW ?_
   clear OW; intro q20 _ Wq20 OW; simp only [↓pc, ↓pn, vE, Hint.val, Act.put, eL]
   gi_wp2
   go_roundw
   case rel => exact ⟨k + 1, by omega, by go_num, (ItL.count (by skip; exact ItC.step (Os := [[(g, .cells #[v] 39 (0, 0))], bs]) (LE := []) HI4 hJ (OwnE.pick OW.out [0, 1] _ (by kernel_rfl))) (by first | exact ls_t (by assumption) | exact ls_f (by assumption)))⟩
   case measure => (simp [intOf] <;> omega)
  have dhB6 := of_decide_eq_false hB6
  obtain rfl : fs.length = k := by omega
  gi_wp2
  go_end0
  exact ⟨⟨_, rfl⟩, .inl (by rw [hKX.out, hNX.out]; exact ItL.leaf (ItL.count (ItC.step (Os := [[(g, .cells #[v] 39 (0, 0))], bs]) (LE := []) HI4 hJ (OW.out)) (by rfl)))⟩
theorem las_ok {I n : Nat} {V x0 x1 x2 x3 x4 x5 x6 x7 : Int} (h1 : I < n) (h2 : V < (I : Int)) (h3 : 2 ≤ x0) (h4 : x0 ≤ 5) : (((((decide ((I : Int) ≤ V)) || (decide ((n : Int) ≤ (I : Int)))) || (!((x0 == x0) && ((x1 == x1) && ((x2 == x2) && ((x3 == x3) && ((x4 == x4) && ((x5 == x5) && ((x6 == x6) && (x7 == x7)))))))))) || (decide (x0 < 2))) || (decide (5 < x0))) = false := by
  rw [decide_eq_false (show ¬ (I : Int) ≤ V by omega), decide_eq_false (show ¬ (n : Int) ≤ (I : Int) by omega), decide_eq_false (show ¬ x0 < 2 by omega), decide_eq_false (show ¬ 5 < x0 by omega)]
  simp
attribute [local irreducible] lsI lsV lsO
set_option maxRecDepth 100000 in
set_option maxHeartbeats 1000000 in
theorem fLasting (A : Option Addr) (nA cA : Nat) : Con Try.prog 26 #[.slice A nA cA] [] [] (fun E => [ob (E.blk 0) #[.slice A nA cA] 39]) (fun E => .func (.func 69) #[] #[.pointer (some ⟨(E.blk 0), 0, none⟩)]) := by
 refine Con.of (enters_of Try.func26 (by kernel_rfl) rfl) fun w cs HS HH OW => ?_
 refine (callsIn_wide (n := 6)).1 ?_
 refine callsIn_of_wp_marks Try.func26 rfl trivial ?_ rfl
 simp only [Try.ntmps26, eF, Nat.reduceAdd, Nat.reduceSub]
 gi_upto_region 0 with fail
 refine rg (fun q1 => [.m (bx 0),
  .v (.nilFunc)]) (fun q1 L => L ++ [ob ((q1 0).blk 0) #[.slice A nA cA] 39]) OW ?_
 clear OW; intro q1 _ Wq1 OW; simp only [↓pc, ↓pn, vE, Hint.val, Act.put, eL]
 gi_upto_region 1 with fail
 refine rg (fun q2 => [.v (.func (.func 69) #[] #[.pointer (some ⟨(q1 0).blk 0, 0, none⟩)]),
  .v (.func (.func 69) #[] #[.pointer (some ⟨(q1 0).blk 0, 0, none⟩)])]) (fun _ L => L) OW ?_
 clear OW; intro q2 _ Wq2 OW; simp only [↓pc, ↓pn, vE, Hint.val, Act.put, eL]
 gi_wp2
 exact leafE HS HH OW [.t (.func (.func 69) #[] #[.pointer (some ⟨(q1 0).blk 0, 0, none⟩)])] (.l [(q1 0).blk 0] [] []) [0] [] rfl
set_option maxRecDepth 100000 in
set_option maxHeartbeats 1000000 in
theorem flast (A : Option Addr) (nA cA : Nat) (fs : List Fa) (stop : Int) (bs : Objs) (h : SrE eFa (.slice A nA cA) fs bs) : Con Try.prog 5 #[.slice A nA cA, .int .i64 stop] [.c bs] [] (fun _ => []) (fun _ => .bool true) := by
 refine Con.of (enters_of Try.func5 (by kernel_rfl) rfl) fun w cs HS HH OW => ?_
 refine (callsIn_wide (n := 6)).1 ?_
 refine callsIn_of_wp_marks Try.func5 rfl trivial ?_ rfl
 simp only [Try.ntmps5, eF, Nat.reduceAdd, Nat.reduceSub]
 gi_upto_region 0 with fail
 refine rg (fun q1 => [.m (bx 1),
  .m (bx 2),
  .m (al 3)]) (fun q1 L => L ++ [ob ((q1 0).blk 0) #[.slice A nA cA] 39, ob ((q1 1).blk 0) #[.int .i64 stop] 3, ob ((q1 2).blk 0) #[.bool false] 4]) OW ?_
 clear OW; intro q1 _ Wq1 OW; simp only [↓pc, ↓pn, vE, Hint.val, Act.put, eL]
 gi_upto_region 1 with fail
 refine rg (fun q2 => [.c [] [] (conB (enters_of Try.func15 (by kernel_rfl) rfl) fun w' => (anchor11_any  _)),
  .v (.bool false)]) (fun _ L => L) OW ?_
 clear OW; intro q2 _ Wq2 OW; simp only [↓pc, ↓pn, vE, Hint.val, Act.put, eL]
 gi_upto_region 3 with fail
 refine rg (fun q3 => [.m (ld 1 (.slice A nA cA)),
  .m (lenR 0 (.c bs) (cP h)),
  .v (.bool (decide (60 < (fs.length : Int))))]) (fun _ L => L) OW ?_
 clear OW; intro q3 _ Wq3 OW; simp only [↓pc, ↓pn, vE, Hint.val, Act.put, eL]
 cases hB4 : (decide (60 < (fs.length : Int)))
 case true =>
  have dhB4 := of_decide_eq_true hB4
  gi_upto_region 4 with fail
  refine rg (fun q5 => [.m (st 3)]) (fun q5 L => L.set 3 (ob ((q1 2).blk 0) #[.bool true] 4)) OW ?_
  clear OW; intro q5 _ Wq5 OW; simp only [↓pc, ↓pn, vE, Hint.val, Act.put, eL]
  gi_wp2
  exact leafE HS HH OW [.c (.bool true) 3] Env.zero [] [(0, 0)] (by first | rfl | (refine congrArg Value.bool (beq_iff_eq.2 ?_); first | omega | (have q1 := HST.out stop.toNat; omega)))
 have dhB4 := of_decide_eq_false hB4
 gi_upto_region 5 with fail
 refine rg (fun q6 => [.m (al 4),
  .m (st 4),
  .v (.int .i64 0)]) (fun q6 L => L ++ [ob ((q6 0).blk 0) #[.int .i64 0] 3]) OW ?_
 clear OW; intro q6 _ Wq6 OW; simp only [↓pc, ↓pn, vE, Hint.val, Act.put, eL]
 gi_upto_region 6 with fail
 refine rg (fun q7 => [.m (al 5),
  .m (st 5)]) (fun q7 L => L ++ [ob ((q7 0).blk 0) #[.int .i64 (-1)] 3]) OW ?_
 clear OW; intro q7 _ Wq7 OW; simp only [↓pc, ↓pn, vE, Hint.val, Act.put, eL]
 gi_upto_region 7 with fail
 refine rg (fun q8 => [.m (ld 1 (.slice A nA cA)),
  .c [] [6] (fLasting A nA cA)]) (fun q8 L => L ++ [ob ((q8 1).blk 0) #[.slice A nA cA] 39]) OW ?_
 clear OW; intro q8 _ Wq8 OW; simp only [↓pc, ↓pn, vE, Hint.val, Act.put, eL]
 gi_wp2
 refine reE_iter (n := 6) (by omega) (gf := 69) (lb := #[.pointer (some ⟨((q8 1).blk 0), 0, none⟩)]) rfl (enters_of Try.func69 (by kernel_rfl) rfl) (encs := fun (i : Nat) => #[.int .i64 ((i : Nat) : Int), .agg #[.int .i64 (fs.getD i zFa).x0, .int .i64 (fs.getD i zFa).x1, .int .i64 (fs.getD i zFa).x2, .int .i64 (fs.getD i zFa).x3, .int .i64 (fs.getD i zFa).x4, .int .i64 (fs.getD i zFa).x5, .int .i64 (fs.getD i zFa).x6, .int .i64 (fs.getD i zFa).x7]]) (xs := lsI fs fs.length) (KO := List.flatten [[(((q8 1).blk 0), .cells #[.slice A nA cA] 39 (0, 0))], bs]) (fLast1 (6 - 1) (by omega) ((q8 1).blk 0) (.slice A nA cA) fs (by omega) bs h)
  (fun k Ls => k ≤ (lsI fs fs.length).length ∧ (∀ j : Nat, 1 ≤ j → j ≤ k → ((j : Nat) : Int) ≠ stop) ∧ Ls = [.c bs, ob ((q1 0).blk 0) #[.slice A nA cA] 39, ob ((q1 1).blk 0) #[.int .i64 stop] 3, ob ((q1 2).blk 0) #[.bool false] 4, ob ((q6 0).blk 0) #[.int .i64 (k : Int)] 3, ob ((q7 0).blk 0) #[.int .i64 (lsV fs k)] 3, ob ((q8 1).blk 0) #[.slice A nA cA] 39]) (fun c k Ls => (c = Code.exit 0 ∧ ((k : Nat) : Int) = stop ∧ Ls = [.c bs, ob ((q1 0).blk 0) #[.slice A nA cA] 39, ob ((q1 1).blk 0) #[.int .i64 stop] 3, ob ((q1 2).blk 0) #[.bool false] 4, ob ((q6 0).blk 0) #[.int .i64 (k : Int)] 3, ob ((q7 0).blk 0) #[.int .i64 (lsV fs k)] 3, ob ((q8 1).blk 0) #[.slice A nA cA] 39])) (Lib.hid (OwnE.cast (L' := [.c bs, ob ((q1 0).blk 0) #[.slice A nA cA] 39, ob ((q1 1).blk 0) #[.int .i64 stop] 3, ob ((q1 2).blk 0) #[.bool false] 4, ob ((q6 0).blk 0) #[.int .i64 ((0 : Nat) : Int)] 3, ob ((q7 0).blk 0) #[.int .i64 (lsV fs 0)] 3, ob ((q8 1).blk 0) #[.slice A nA cA] 39]) OW.out (by skip; kernel_rfl))) ⟨Nat.zero_le _, fun j h1 h2 => by omega, rfl⟩ ?KOI9 ?KXI9 (OwnE.ndC (Os := [[(((q8 1).blk 0), .cells #[.slice A nA cA] 39 (0, 0))], bs]) (OwnE.pick OW.out [6, 0] _ (by kernel_rfl))) (fun _ => rfl) ?roundI9 ?doneI9 ?stopI9
 case KOI9 => rintro k Ls ⟨_, _, rfl⟩; exact holds_at (Os := [[(((q8 1).blk 0), .cells #[.slice A nA cA] 39 (0, 0))], bs]) [6, 0] (by kernel_rfl)
 case KXI9 => rintro c k Ls (⟨rfl, _, rfl⟩) <;> exact holds_at (Os := [[(((q8 1).blk 0), .cells #[.slice A nA cA] 39 (0, 0))], bs]) [6, 0] (by kernel_rfl)
 case roundI9 =>
  rintro lR k xE Ls R12 W10 hxE ⟨hk11, hst, rfl⟩ OW
  simp only [putP0, putP1, putP2, eL]
  obtain ⟨hkb13, rfl⟩ := list_some 0 hxE
  have HST := Lib.hid hst
  clear hst
  obtain ⟨la1, la2, la3, la4⟩ := ls_at hkb13
  have HLN := ls_le fs fs.length
  gi_upto_region 8 with fail
  refine rg (fun q14 => [.v (.int .i64 (((lsI fs fs.length).getD k 0 : Nat) : Int))]) (fun _ L => L) OW ?_
  clear OW; intro q14 _ Wq14 OW; simp only [↓pc, ↓pn, vE, Hint.val, Act.put, eL]
  gi_upto_region 9 with fail
  refine rg (fun q15 => [.m (al 7),
   .m (ss 7)]) (fun q15 L => L ++ [ob ((q15 0).blk 0) #[.int .i64 ((fs.getD ((lsI fs fs.length).getD k 0) zFa).x0), .int .i64 ((fs.getD ((lsI fs fs.length).getD k 0) zFa).x1), .int .i64 ((fs.getD ((lsI fs fs.length).getD k 0) zFa).x2), .int .i64 ((fs.getD ((lsI fs fs.length).getD k 0) zFa).x3), .int .i64 ((fs.getD ((lsI fs fs.length).getD k 0) zFa).x4), .int .i64 ((fs.getD ((lsI fs fs.length).getD k 0) zFa).x5), .int .i64 ((fs.getD ((lsI fs fs.length).getD k 0) zFa).x6), .int .i64 ((fs.getD ((lsI fs fs.length).getD k 0) zFa).x7)] 25]) OW ?_
  clear OW; intro q15 _ Wq15 OW; simp only [↓pc, ↓pn, vE, Hint.val, Act.put, eL]
  gi_wp2
  refine ⟨[.c bs, ob ((q1 0).blk 0) #[.slice A nA cA] 39, ob ((q1 1).blk 0) #[.int .i64 stop] 3, ob ((q1 2).blk 0) #[.bool false] 4, ob ((q6 0).blk 0) #[.int .i64 (k : Int)] 3, ob ((q7 0).blk 0) #[.int .i64 (lsV fs k)] 3, ob ((q8 1).blk 0) #[.slice A nA cA] 39, ob ((q15 0).blk 0) #[.int .i64 ((fs.getD ((lsI fs fs.length).getD k 0) zFa).x0), .int .i64 ((fs.getD ((lsI fs fs.length).getD k 0) zFa).x1), .int .i64 ((fs.getD ((lsI fs fs.length).getD k 0) zFa).x2), .int .i64 ((fs.getD ((lsI fs fs.length).getD k 0) zFa).x3), .int .i64 ((fs.getD ((lsI fs fs.length).getD k 0) zFa).x4), .int .i64 ((fs.getD ((lsI fs fs.length).getD k 0) zFa).x5), .int .i64 ((fs.getD ((lsI fs fs.length).getD k 0) zFa).x6), .int .i64 ((fs.getD ((lsI fs fs.length).getD k 0) zFa).x7)] 25], OW.out, holds_at (Os := [[(((q8 1).blk 0), .cells #[.slice A nA cA] 39 (0, 0))], bs]) [6, 0] (by kernel_rfl), ?_⟩
  clear OW; intro R17 W16 OW
  gi_upto_region 10 with fail
  refine rg (fun q18 => [.v (.int .i64 (((lsI fs fs.length).getD k 0 : Nat) : Int)),
   .m (ld 5 (.int .i64 (lsV fs k))),
   .t (tk (show Value.bool (decide ((((lsI fs fs.length).getD k 0 : Nat) : Int) ≤ (lsV fs k))) = .bool false from congrArg Value.bool (by exact decide_eq_false (by omega)))),
   .v (.bool false),
   .v (.int .i64 (((lsI fs fs.length).getD k 0 : Nat) : Int)),
   .m (ld 1 (.slice A nA cA)),
   .m (lenR 0 (.c bs) (cP h)),
   .t (tk (show Value.bool (decide ((fs.length : Int) ≤ (((lsI fs fs.length).getD k 0 : Nat) : Int))) = .bool false from congrArg Value.bool (by exact decide_eq_false (by omega)))),
   .k (.bool false),
   .v (.bool false),
   .m (ld 1 (.slice A nA cA)),
   .v (.int .i64 (((lsI fs fs.length).getD k 0 : Nat) : Int)),
   .m (idxR 0 (.c bs) ((lsI fs fs.length).getD k 0) 8 (cP h) (by omega)),
   .m (lsR (l := [.int .i64 ((fs.getD ((lsI fs fs.length).getD k 0) zFa).x0), .int .i64 ((fs.getD ((lsI fs fs.length).getD k 0) zFa).x1), .int .i64 ((fs.getD ((lsI fs fs.length).getD k 0) zFa).x2), .int .i64 ((fs.getD ((lsI fs fs.length).getD k 0) zFa).x3), .int .i64 ((fs.getD ((lsI fs fs.length).getD k 0) zFa).x4), .int .i64 ((fs.getD ((lsI fs fs.length).getD k 0) zFa).x5), .int .i64 ((fs.getD ((lsI fs fs.length).getD k 0) zFa).x6), .int .i64 ((fs.getD ((lsI fs fs.length).getD k 0) zFa).x7)]) (d := zFa) 0 (.c bs) ((lsI fs fs.length).getD k 0) 8 0 (cP h) (fun _ => rfl) (by omega) (Nat.le_of_ble_eq_true rfl) (by kernel_rfl)),
   .m (ls 7 ([.int .i64 ((fs.getD ((lsI fs fs.length).getD k 0) zFa).x0), .int .i64 ((fs.getD ((lsI fs fs.length).getD k 0) zFa).x1), .int .i64 ((fs.getD ((lsI fs fs.length).getD k 0) zFa).x2), .int .i64 ((fs.getD ((lsI fs fs.length).getD k 0) zFa).x3), .int .i64 ((fs.getD ((lsI fs fs.length).getD k 0) zFa).x4), .int .i64 ((fs.getD ((lsI fs fs.length).getD k 0) zFa).x5), .int .i64 ((fs.getD ((lsI fs fs.length).getD k 0) zFa).x6), .int .i64 ((fs.getD ((lsI fs fs.length).getD k 0) zFa).x7)])),
   .t (TH.cast (tbT 25 fun _ _ _ => bin_neT (xs := [.int .i64 ((fs.getD ((lsI fs fs.length).getD k 0) zFa).x0), .int .i64 ((fs.getD ((lsI fs fs.length).getD k 0) zFa).x1), .int .i64 ((fs.getD ((lsI fs fs.length).getD k 0) zFa).x2), .int .i64 ((fs.getD ((lsI fs fs.length).getD k 0) zFa).x3), .int .i64 ((fs.getD ((lsI fs fs.length).getD k 0) zFa).x4), .int .i64 ((fs.getD ((lsI fs fs.length).getD k 0) zFa).x5), .int .i64 ((fs.getD ((lsI fs fs.length).getD k 0) zFa).x6), .int .i64 ((fs.getD ((lsI fs fs.length).getD k 0) zFa).x7)]) (ys := [.int .i64 ((fs.getD ((lsI fs fs.length).getD k 0) zFa).x0), .int .i64 ((fs.getD ((lsI fs fs.length).getD k 0) zFa).x1), .int .i64 ((fs.getD ((lsI fs fs.length).getD k 0) zFa).x2), .int .i64 ((fs.getD ((lsI fs fs.length).getD k 0) zFa).x3), .int .i64 ((fs.getD ((lsI fs fs.length).getD k 0) zFa).x4), .int .i64 ((fs.getD ((lsI fs fs.length).getD k 0) zFa).x5), .int .i64 ((fs.getD ((lsI fs fs.length).getD k 0) zFa).x6), .int .i64 ((fs.getD ((lsI fs fs.length).getD k 0) zFa).x7)]) (by kernel_rfl) (show _ = (((((fs.getD ((lsI fs fs.length).getD k 0) zFa).x0) == ((fs.getD ((lsI fs fs.length).getD k 0) zFa).x0)) && ((((fs.getD ((lsI fs fs.length).getD k 0) zFa).x1) == ((fs.getD ((lsI fs fs.length).getD k 0) zFa).x1)) && ((((fs.getD ((lsI fs fs.length).getD k 0) zFa).x2) == ((fs.getD ((lsI fs fs.length).getD k 0) zFa).x2)) && ((((fs.getD ((lsI fs fs.length).getD k 0) zFa).x3) == ((fs.getD ((lsI fs fs.length).getD k 0) zFa).x3)) && ((((fs.getD ((lsI fs fs.length).getD k 0) zFa).x4) == ((fs.getD ((lsI fs fs.length).getD k 0) zFa).x4)) && ((((fs.getD ((lsI fs fs.length).getD k 0) zFa).x5) == ((fs.getD ((lsI fs fs.length).getD k 0) zFa).x5)) && ((((fs.getD ((lsI fs fs.length).getD k 0) zFa).x6) == ((fs.getD ((lsI fs fs.length).getD k 0) zFa).x6)) && (((fs.getD ((lsI fs fs.length).getD k 0) zFa).x7) == ((fs.getD ((lsI fs fs.length).getD k 0) zFa).x7))))))))) : Bool) from Eq.trans (b := (((fs.getD ((lsI fs fs.length).getD k 0) zFa).x0) == ((fs.getD ((lsI fs fs.length).getD k 0) zFa).x0) && (((fs.getD ((lsI fs fs.length).getD k 0) zFa).x1) == ((fs.getD ((lsI fs fs.length).getD k 0) zFa).x1) && (((fs.getD ((lsI fs fs.length).getD k 0) zFa).x2) == ((fs.getD ((lsI fs fs.length).getD k 0) zFa).x2) && (((fs.getD ((lsI fs fs.length).getD k 0) zFa).x3) == ((fs.getD ((lsI fs fs.length).getD k 0) zFa).x3) && (((fs.getD ((lsI fs fs.length).getD k 0) zFa).x4) == ((fs.getD ((lsI fs fs.length).getD k 0) zFa).x4) && (((fs.getD ((lsI fs fs.length).getD k 0) zFa).x5) == ((fs.getD ((lsI fs fs.length).getD k 0) zFa).x5) && (((fs.getD ((lsI fs fs.length).getD k 0) zFa).x6) == ((fs.getD ((lsI fs fs.length).getD k 0) zFa).x6) && (((fs.getD ((lsI fs fs.length).getD k 0) zFa).x7) == ((fs.getD ((lsI fs fs.length).getD k 0) zFa).x7) && true))))))))) (by rfl) (by simp only [Bool.and_true, beq_true, beq_false]))) (show Value.bool (!((((fs.getD ((lsI fs fs.length).getD k 0) zFa).x0) == ((fs.getD ((lsI fs fs.length).getD k 0) zFa).x0)) && ((((fs.getD ((lsI fs fs.length).getD k 0) zFa).x1) == ((fs.getD ((lsI fs fs.length).getD k 0) zFa).x1)) && ((((fs.getD ((lsI fs fs.length).getD k 0) zFa).x2) == ((fs.getD ((lsI fs fs.length).getD k 0) zFa).x2)) && ((((fs.getD ((lsI fs fs.length).getD k 0) zFa).x3) == ((fs.getD ((lsI fs fs.length).getD k 0) zFa).x3)) && ((((fs.getD ((lsI fs fs.length).getD k 0) zFa).x4) == ((fs.getD ((lsI fs fs.length).getD k 0) zFa).x4)) && ((((fs.getD ((lsI fs fs.length).getD k 0) zFa).x5) == ((fs.getD ((lsI fs fs.length).getD k 0) zFa).x5)) && ((((fs.getD ((lsI fs fs.length).getD k 0) zFa).x6) == ((fs.getD ((lsI fs fs.length).getD k 0) zFa).x6)) && (((fs.getD ((lsI fs fs.length).getD k 0) zFa).x7) == ((fs.getD ((lsI fs fs.length).getD k 0) zFa).x7)))))))))) = .bool false from congrArg Value.bool (by simp))),
   .k (.bool false),
   .v (.bool false),
   .v (.pointer (some ⟨(q15 0).blk 0, 0, none⟩)),
   .m (ld 7 (.int .i64 ((fs.getD ((lsI fs fs.length).getD k 0) zFa).x0))),
   .t (tk (show Value.bool (decide (((fs.getD ((lsI fs fs.length).getD k 0) zFa).x0) < 2)) = .bool false from congrArg Value.bool (by exact decide_eq_false (by omega)))),
   .k (.bool false),
   .v (.bool false),
   .v (.pointer (some ⟨(q15 0).blk 0, 0, none⟩)),
   .m (ld 7 (.int .i64 ((fs.getD ((lsI fs fs.length).getD k 0) zFa).x0))),
   .t (tk (show Value.bool (decide (5 < ((fs.getD ((lsI fs fs.length).getD k 0) zFa).x0))) = .bool false from congrArg Value.bool (by exact decide_eq_false (by omega)))),
   .k (.bool false)]) (fun _ L => L) OW ?_
  clear OW; intro q18 _ Wq18 OW; simp only [↓pc, ↓pn, vE, Hint.val, Act.put, eL]
  gi_upto_region 12 with fail
  refine rg (fun q19 => [.v (.int .i64 (((lsI fs fs.length).getD k 0 : Nat) : Int)),
   .m (st 5)]) (fun q19 L => L.set 5 (ob ((q7 0).blk 0) #[.int .i64 (((lsI fs fs.length).getD k 0 : Nat) : Int)] 3)) OW ?_
  clear OW; intro q19 _ Wq19 OW; simp only [↓pc, ↓pn, vE, Hint.val, Act.put, eL]
  gi_upto_region 13 with fail
  refine rg (fun q20 => [.m (ld 4 (.int .i64 (k : Int))),
   .t (tb (a := .int .i64 (k : Int)) (b := .int .i64 1) fun _ _ _ _ => bin_add_nat (a := k) (b := 1) (by omega)),
   .m (st 4)]) (fun q20 L => L.set 4 (ob ((q6 0).blk 0) #[.int .i64 ((k + 1 : Nat) : Int)] 3)) OW ?_
  clear OW; intro q20 _ Wq20 OW; simp only [↓pc, ↓pn, vE, Hint.val, Act.put, eL]
  gi_upto_region 14 with fail
  refine rg (fun q21 => [.m (ld 4 (.int .i64 ((k + 1 : Nat) : Int))),
   .m (ld 2 (.int .i64 stop)),
   .v (.bool (((k + 1 : Nat) : Int) == stop))]) (fun _ L => L) OW ?_
  clear OW; intro q21 _ Wq21 OW; simp only [↓pc, ↓pn, vE, Hint.val, Act.put, eL]
  cases hB22 : (((k + 1 : Nat) : Int) == stop)
  case true =>
   have dhB22 := Lib.hid (eq_of_beq hB22)
   gi_wp2
   exact NextE.mk (L' := [.c bs, ob ((q1 0).blk 0) #[.slice A nA cA] 39, ob ((q1 1).blk 0) #[.int .i64 stop] 3, ob ((q1 2).blk 0) #[.bool false] 4, ob ((q6 0).blk 0) #[.int .i64 (((k + 1) : Nat) : Int)] 3, ob ((q7 0).blk 0) #[.int .i64 (lsV fs (k + 1))] 3, ob ((q8 1).blk 0) #[.slice A nA cA] 39]) OW [0, 1, 2, 3, 4, 5, 6] (⟨rfl, (eq_of_beq (by assumption)), rfl⟩) (by kernel_rfl)
  have dhB22 := ne_of_beq_false hB22
  gi_wp2
  exact NextE.mk (L' := [.c bs, ob ((q1 0).blk 0) #[.slice A nA cA] 39, ob ((q1 1).blk 0) #[.int .i64 stop] 3, ob ((q1 2).blk 0) #[.bool false] 4, ob ((q6 0).blk 0) #[.int .i64 (((k + 1) : Nat) : Int)] 3, ob ((q7 0).blk 0) #[.int .i64 (lsV fs (k + 1))] 3, ob ((q8 1).blk 0) #[.slice A nA cA] 39]) OW [0, 1, 2, 3, 4, 5, 6] ⟨by omega, fun j h1 h2 => (Nat.lt_or_ge k j).elim (fun h3 => by obtain rfl : j = k + 1 := (by omega); exact ne_of_beq_false (by assumption)) (fun h3 => HST.out j h1 h3), rfl⟩ (by skip; kernel_rfl)
 case stopI9 =>
  rintro D23 c k Ls W24 hi (⟨rfl, hrx0, rfl⟩) OW1
  clear OW
  obtain ⟨R26, OC25, OW⟩ := Clo.markE (Clo.nil _ _) OW1.out
  clear OW1
  gi_upto_region 15 with fail
  refine rg (fun q27 => [.m (ld 1 (.slice A nA cA)),
   .m (lenR 0 (.c bs) (cP h)),
   .v (.int .i64 0)]) (fun _ L => L) OW ?_
  clear OW; intro q27 _ Wq27 OW; simp only [↓pc, ↓pn, vE, Hint.val, Act.put, eL]
  gi_wp2
  gi_loopw [56, 6] (fun z56 z6 wr => ∃ j : Nat, j ≤ fs.length ∧ z56 = .int .i64 (j : Int) ∧ z6 = .int .i64 (((lsI fs j).length : Nat) : Int) ∧ OwnE R26 W24 [.c bs, ob ((q1 0).blk 0) #[.slice A nA cA] 39, ob ((q1 1).blk 0) #[.int .i64 stop] 3, ob ((q1 2).blk 0) #[.bool false] 4, ob ((q6 0).blk 0) #[.int .i64 (((k + 1) : Nat) : Int)] 3, ob ((q7 0).blk 0) #[.int .i64 (lsV fs (k + 1))] 3, ob ((q8 1).blk 0) #[.slice A nA cA] 39] wr) (fun z56 z6 _ => fs.length - (intOf (z56)).toNat)
  case atStart => exact ⟨0, by omega, rfl, congrArg _ (ls_0 fs), (by skip; exact OwnE.cast OW.out (by kernel_rfl))⟩
  case round =>
   obtain ⟨j, hk29, rfl, rfl, hO⟩ := hrel
   clear OW
   have HLJ := ls_le fs j
   have OW := Lib.hid hO
   clear hO
   gi_upto_region 16 with fail
   refine rg (fun q30 => [.v (.bool (decide ((j : Int) < (fs.length : Int))))]) (fun _ L => L) OW ?_
   clear OW; intro q30 _ Wq30 OW; simp only [↓pc, ↓pn, vE, Hint.val, Act.put, eL]
   cases hB31 : (decide ((j : Int) < (fs.length : Int)))
   case true =>
    have dhB31 := of_decide_eq_true hB31
    gi_upto_region 17 with fail
    refine rg (fun q32 => [.m (idxR 0 (.c bs) j 8 (cP h) (by omega)),
     .m (lsR (l := [.int .i64 ((fs.getD j zFa).x0), .int .i64 ((fs.getD j zFa).x1), .int .i64 ((fs.getD j zFa).x2), .int .i64 ((fs.getD j zFa).x3), .int .i64 ((fs.getD j zFa).x4), .int .i64 ((fs.getD j zFa).x5), .int .i64 ((fs.getD j zFa).x6), .int .i64 ((fs.getD j zFa).x7)]) (d := zFa) 0 (.c bs) j 8 0 (cP h) (fun _ => rfl) (by omega) (Nat.le_of_ble_eq_true rfl) (by kernel_rfl)),
     .m (al 7),
     .m (ss 7)]) (fun q32 L => L ++ [ob ((q32 2).blk 0) #[.int .i64 ((fs.getD j zFa).x0), .int .i64 ((fs.getD j zFa).x1), .int .i64 ((fs.getD j zFa).x2), .int .i64 ((fs.getD j zFa).x3), .int .i64 ((fs.getD j zFa).x4), .int .i64 ((fs.getD j zFa).x5), .int .i64 ((fs.getD j zFa).x6), .int .i64 ((fs.getD j zFa).x7)] 25]) OW ?_
    clear OW; intro q32 _ Wq32 OW; simp only [↓pc, ↓pn, vE, Hint.val, Act.put, eL]
    gi_upto_region 18 with fail
    refine rg (fun q33 => [.v (.pointer (some ⟨(q32 2).blk 0, 0, none⟩)),
     .m (ld 7 (.int .i64 ((fs.getD j zFa).x0))),
     .v (.bool (decide (2 ≤ ((fs.getD j zFa).x0)))),
     .v (.bool (decide (2 ≤ ((fs.getD j zFa).x0)))),
     .v (.pointer (some ⟨(q32 2).blk 0, 0, none⟩)),
     .m (ld 7 (.int .i64 ((fs.getD j zFa).x0))),
     .v (.bool (decide (((fs.getD j zFa).x0) ≤ 5))),
     .k (.bool ((decide (2 ≤ ((fs.getD j zFa).x0))) && (decide (((fs.getD j zFa).x0) ≤ 5))))]) (fun _ L => L) OW ?_
    clear OW; intro q33 _ Wq33 OW; simp only [↓pc, ↓pn, vE, Hint.val, Act.put, eL]
    cases hB34 : ((decide (2 ≤ ((fs.getD j zFa).x0))) && (decide (((fs.getD j zFa).x0) ≤ 5)))
    case true =>
     gi_upto_region 19 with fail
     refine rg (fun q35 => [.v (.int .i64 (((lsI fs j).length : Nat) : Int)),
      .t (tb (a := .int .i64 (((lsI fs j).length : Nat) : Int)) (b := .int .i64 1) fun _ _ _ _ => bin_add_nat (a := (lsI fs j).length) (b := 1) (by omega)),
      .v (.int .i64 ((((lsI fs j).length) + 1 : Nat) : Int))]) (fun _ L => L) OW ?_
     clear OW; intro q35 _ Wq35 OW; simp only [↓pc, ↓pn, vE, Hint.val, Act.put, eL]
     gi_upto_region 20 with fail
     refine rg (fun q36 => [.t (tb (a := .int .i64 (j : Int)) (b := .int .i64 1) fun _ _ _ _ => bin_add_nat (a := j) (b := 1) (by omega)),
      .v (.int .i64 ((j + 1 : Nat) : Int))]) (fun _ L => L) OW ?_
     clear OW; intro q36 _ Wq36 OW; simp only [↓pc, ↓pn, vE, Hint.val, Act.put, eL]
     gi_wp2
     go_roundw
     case rel => exact ⟨j + 1, by omega, by go_num, by first | exact congrArg _ (ls_tI (by assumption)) | exact congrArg _ (ls_fI (by assumption)), (by skip; exact OwnE.pick OW.out [0, 1, 2, 3, 4, 5, 6] _ (by kernel_rfl))⟩
     case measure => (simp [intOf] <;> omega)
    gi_upto_region 20 with fail
    refine rg (fun q37 => [.t (tb (a := .int .i64 (j : Int)) (b := .int .i64 1) fun _ _ _ _ => bin_add_nat (a := j) (b := 1) (by omega)),
     .v (.int .i64 ((j + 1 : Nat) : Int))]) (fun _ L => L) OW ?_
    clear OW; intro q37 _ Wq37 OW; simp only [↓pc, ↓pn, vE, Hint.val, Act.put, eL]
    gi_wp2
    go_roundw
    case rel => exact ⟨j + 1, by omega, by go_num, by first | exact congrArg _ (ls_tI (by assumption)) | exact congrArg _ (ls_fI (by assumption)), (by skip; exact OwnE.pick OW.out [0, 1, 2, 3, 4, 5, 6] _ (by kernel_rfl))⟩
    case measure => (simp [intOf] <;> omega)
   have dhB31 := of_decide_eq_false hB31
   obtain rfl : fs.length = j := by omega
   gi_upto_region 21 with fail
   refine rg (fun q38 => [.m (ld 2 (.int .i64 stop)),
    .v (.bool (decide (1 ≤ stop)))]) (fun _ L => L) OW ?_
   clear OW; intro q38 _ Wq38 OW; simp only [↓pc, ↓pn, vE, Hint.val, Act.put, eL]
   cases hB39 : (decide (1 ≤ stop))
   case true =>
    have dhB39 := of_decide_eq_true hB39
    gi_upto_region 22 with fail
    refine rg (fun q40 => [.v (.int .i64 (((lsI fs fs.length).length : Nat) : Int)),
     .m (ld 2 (.int .i64 stop)),
     .t (tv (Builtin.min_ #[3, 3] 3 #[.int .i64 (((lsI fs fs.length).length : Nat) : Int), .int .i64 stop]) (fun _ => run_minI _ _ _ _)),
     .v (.int .i64 (min (((lsI fs fs.length).length : Nat) : Int) stop))]) (fun _ L => L) OW ?_
    clear OW; intro q40 _ Wq40 OW; simp only [↓pc, ↓pn, vE, Hint.val, Act.put, eL]
    gi_upto_region 23 with fail
    refine rg (fun q41 => [.m (ld 4 (.int .i64 (((k + 1) : Nat) : Int))),
     .v (.int .i64 (min (((lsI fs fs.length).length : Nat) : Int) stop)),
     .v (.bool ((((k + 1) : Nat) : Int) == (min (((lsI fs fs.length).length : Nat) : Int) stop))),
     .m (st 3)]) (fun q41 L => L.set 3 (ob ((q1 2).blk 0) #[.bool ((((k + 1) : Nat) : Int) == (min (((lsI fs fs.length).length : Nat) : Int) stop))] 4)) OW ?_
    clear OW; intro q41 _ Wq41 OW; simp only [↓pc, ↓pn, vE, Hint.val, Act.put, eL]
    gi_wp2
    exact leafM HS HH OC25 OW [.c (.bool ((((k + 1) : Nat) : Int) == (min (((lsI fs fs.length).length : Nat) : Int) stop))) 3] Env.zero [] [(0, 0)] (by first | rfl | (refine congrArg Value.bool (beq_iff_eq.2 ?_); first | omega | (have q1 := HST.out stop.toNat; omega)))
   have dhB39 := of_decide_eq_false hB39
   gi_upto_region 23 with fail
   refine rg (fun q42 => [.m (ld 4 (.int .i64 (((k + 1) : Nat) : Int))),
    .v (.int .i64 (((lsI fs fs.length).length : Nat) : Int)),
    .v (.bool ((((k + 1) : Nat) : Int) == (((lsI fs fs.length).length : Nat) : Int))),
    .m (st 3)]) (fun q42 L => L.set 3 (ob ((q1 2).blk 0) #[.bool ((((k + 1) : Nat) : Int) == (((lsI fs fs.length).length : Nat) : Int))] 4)) OW ?_
   clear OW; intro q42 _ Wq42 OW; simp only [↓pc, ↓pn, vE, Hint.val, Act.put, eL]
   gi_wp2
   exact leafM HS HH OC25 OW [.c (.bool ((((k + 1) : Nat) : Int) == (((lsI fs fs.length).length : Nat) : Int))) 3] Env.zero [] [(0, 0)] (by first | rfl | (refine congrArg Value.bool (beq_iff_eq.2 ?_); first | omega | (have q1 := HST.out stop.toNat; omega)))
 case doneI9 =>
  rintro D43 Ls W44 hR OW1
  obtain ⟨_, hst, rfl⟩ := hR
  have HST := Lib.hid hst
  clear hst
  clear OW
  obtain ⟨R46, OC45, OW⟩ := Clo.markE (Clo.nil _ _) OW1.out
  clear OW1
  gi_upto_region 15 with fail
  refine rg (fun q47 => [.m (ld 1 (.slice A nA cA)),
   .m (lenR 0 (.c bs) (cP h)),
   .v (.int .i64 0)]) (fun _ L => L) OW ?_
  clear OW; intro q47 _ Wq47 OW; simp only [↓pc, ↓pn, vE, Hint.val, Act.put, eL]
  gi_wp2
  gi_loopw [56, 6] (fun z56 z6 wr => ∃ j : Nat, j ≤ fs.length ∧ z56 = .int .i64 (j : Int) ∧ z6 = .int .i64 (((lsI fs j).length : Nat) : Int) ∧ OwnE R46 W44 [.c bs, ob ((q1 0).blk 0) #[.slice A nA cA] 39, ob ((q1 1).blk 0) #[.int .i64 stop] 3, ob ((q1 2).blk 0) #[.bool false] 4, ob ((q6 0).blk 0) #[.int .i64 ((((lsI fs fs.length).length) : Nat) : Int)] 3, ob ((q7 0).blk 0) #[.int .i64 (lsV fs ((lsI fs fs.length).length))] 3, ob ((q8 1).blk 0) #[.slice A nA cA] 39] wr) (fun z56 z6 _ => fs.length - (intOf (z56)).toNat)
  case atStart => exact ⟨0, by omega, rfl, congrArg _ (ls_0 fs), (by skip; exact OwnE.cast OW.out (by kernel_rfl))⟩
  case round =>
   obtain ⟨j, hk49, rfl, rfl, hO⟩ := hrel
   clear OW
   have HLJ := ls_le fs j
   have OW := Lib.hid hO
   clear hO
   gi_upto_region 16 with fail
   refine rg (fun q50 => [.v (.bool (decide ((j : Int) < (fs.length : Int))))]) (fun _ L => L) OW ?_
   clear OW; intro q50 _ Wq50 OW; simp only [↓pc, ↓pn, vE, Hint.val, Act.put, eL]
   cases hB51 : (decide ((j : Int) < (fs.length : Int)))
   case true =>
    have dhB51 := of_decide_eq_true hB51
    gi_upto_region 17 with fail
    refine rg (fun q52 => [.m (idxR 0 (.c bs) j 8 (cP h) (by omega)),
     .m (lsR (l := [.int .i64 ((fs.getD j zFa).x0), .int .i64 ((fs.getD j zFa).x1), .int .i64 ((fs.getD j zFa).x2), .int .i64 ((fs.getD j zFa).x3), .int .i64 ((fs.getD j zFa).x4), .int .i64 ((fs.getD j zFa).x5), .int .i64 ((fs.getD j zFa).x6), .int .i64 ((fs.getD j zFa).x7)]) (d := zFa) 0 (.c bs) j 8 0 (cP h) (fun _ => rfl) (by omega) (Nat.le_of_ble_eq_true rfl) (by kernel_rfl)),
     .m (al 7),
     .m (ss 7)]) (fun q52 L => L ++ [ob ((q52 2).blk 0) #[.int .i64 ((fs.getD j zFa).x0), .int .i64 ((fs.getD j zFa).x1), .int .i64 ((fs.getD j zFa).x2), .int .i64 ((fs.getD j zFa).x3), .int .i64 ((fs.getD j zFa).x4), .int .i64 ((fs.getD j zFa).x5), .int .i64 ((fs.getD j zFa).x6), .int .i64 ((fs.getD j zFa).x7)] 25]) OW ?_
    clear OW; intro q52 _ Wq52 OW; simp only [↓pc, ↓pn, vE, Hint.val, Act.put, eL]
    gi_upto_region 18 with fail
    refine rg (fun q53 => [.v (.pointer (some ⟨(q52 2).blk 0, 0, none⟩)),
     .m (ld 7 (.int .i64 ((fs.getD j zFa).x0))),
     .v (.bool (decide (2 ≤ ((fs.getD j zFa).x0)))),
     .v (.bool (decide (2 ≤ ((fs.getD j zFa).x0)))),
     .v (.pointer (some ⟨(q52 2).blk 0, 0, none⟩)),
     .m (ld 7 (.int .i64 ((fs.getD j zFa).x0))),
     .v (.bool (decide (((fs.getD j zFa).x0) ≤ 5))),
     .k (.bool ((decide (2 ≤ ((fs.getD j zFa).x0))) && (decide (((fs.getD j zFa).x0) ≤ 5))))]) (fun _ L => L) OW ?_
    clear OW; intro q53 _ Wq53 OW; simp only [↓pc, ↓pn, vE, Hint.val, Act.put, eL]
    cases hB54 : ((decide (2 ≤ ((fs.getD j zFa).x0))) && (decide (((fs.getD j zFa).x0) ≤ 5)))
    case true =>
     gi_upto_region 19 with fail
     refine rg (fun q55 => [.v (.int .i64 (((lsI fs j).length : Nat) : Int)),
      .t (tb (a := .int .i64 (((lsI fs j).length : Nat) : Int)) (b := .int .i64 1) fun _ _ _ _ => bin_add_nat (a := (lsI fs j).length) (b := 1) (by omega)),
      .v (.int .i64 ((((lsI fs j).length) + 1 : Nat) : Int))]) (fun _ L => L) OW ?_
     clear OW; intro q55 _ Wq55 OW; simp only [↓pc, ↓pn, vE, Hint.val, Act.put, eL]
     gi_upto_region 20 with fail
     refine rg (fun q56 => [.t (tb (a := .int .i64 (j : Int)) (b := .int .i64 1) fun _ _ _ _ => bin_add_nat (a := j) (b := 1) (by omega)),
      .v (.int .i64 ((j + 1 : Nat) : Int))]) (fun _ L => L) OW ?_
     clear OW; intro q56 _ Wq56 OW; simp only [↓pc, ↓pn, vE, Hint.val, Act.put, eL]
     gi_wp2
     go_roundw
     case rel => exact ⟨j + 1, by omega, by go_num, by first | exact congrArg _ (ls_tI (by assumption)) | exact congrArg _ (ls_fI (by assumption)), (by skip; exact OwnE.pick OW.out [0, 1, 2, 3, 4, 5, 6] _ (by kernel_rfl))⟩
     case measure => (simp [intOf] <;> omega)
    gi_upto_region 20 with fail
    refine rg (fun q57 => [.t (tb (a := .int .i64 (j : Int)) (b := .int .i64 1) fun _ _ _ _ => bin_add_nat (a := j) (b := 1) (by omega)),
     .v (.int .i64 ((j + 1 : Nat) : Int))]) (fun _ L => L) OW ?_
    clear OW; intro q57 _ Wq57 OW; simp only [↓pc, ↓pn, vE, Hint.val, Act.put, eL]
    gi_wp2
    go_roundw
    case rel => exact ⟨j + 1, by omega, by go_num, by first | exact congrArg _ (ls_tI (by assumption)) | exact congrArg _ (ls_fI (by assumption)), (by skip; exact OwnE.pick OW.out [0, 1, 2, 3, 4, 5, 6] _ (by kernel_rfl))⟩
    case measure => (simp [intOf] <;> omega)
   have dhB51 := of_decide_eq_false hB51
   obtain rfl : fs.length = j := by omega
   gi_upto_region 21 with fail
   refine rg (fun q58 => [.m (ld 2 (.int .i64 stop)),
    .v (.bool (decide (1 ≤ stop)))]) (fun _ L => L) OW ?_
   clear OW; intro q58 _ Wq58 OW; simp only [↓pc, ↓pn, vE, Hint.val, Act.put, eL]
   cases hB59 : (decide (1 ≤ stop))
   case true =>
    have dhB59 := of_decide_eq_true hB59
    gi_upto_region 22 with fail
    refine rg (fun q60 => [.v (.int .i64 (((lsI fs fs.length).length : Nat) : Int)),
     .m (ld 2 (.int .i64 stop)),
     .t (tv (Builtin.min_ #[3, 3] 3 #[.int .i64 (((lsI fs fs.length).length : Nat) : Int), .int .i64 stop]) (fun _ => run_minI _ _ _ _)),
     .v (.int .i64 (min (((lsI fs fs.length).length : Nat) : Int) stop))]) (fun _ L => L) OW ?_
    clear OW; intro q60 _ Wq60 OW; simp only [↓pc, ↓pn, vE, Hint.val, Act.put, eL]
    gi_upto_region 23 with fail
    refine rg (fun q61 => [.m (ld 4 (.int .i64 ((((lsI fs fs.length).length) : Nat) : Int))),
     .v (.int .i64 (min (((lsI fs fs.length).length : Nat) : Int) stop)),
     .v (.bool (((((lsI fs fs.length).length) : Nat) : Int) == (min (((lsI fs fs.length).length : Nat) : Int) stop))),
     .m (st 3)]) (fun q61 L => L.set 3 (ob ((q1 2).blk 0) #[.bool (((((lsI fs fs.length).length) : Nat) : Int) == (min (((lsI fs fs.length).length : Nat) : Int) stop))] 4)) OW ?_
    clear OW; intro q61 _ Wq61 OW; simp only [↓pc, ↓pn, vE, Hint.val, Act.put, eL]
    gi_wp2
    exact leafM HS HH OC45 OW [.c (.bool (((((lsI fs fs.length).length) : Nat) : Int) == (min (((lsI fs fs.length).length : Nat) : Int) stop))) 3] Env.zero [] [(0, 0)] (by first | rfl | (refine congrArg Value.bool (beq_iff_eq.2 ?_); first | omega | (have q1 := HST.out stop.toNat; omega)))
   have dhB59 := of_decide_eq_false hB59
   gi_upto_region 23 with fail
   refine rg (fun q62 => [.m (ld 4 (.int .i64 ((((lsI fs fs.length).length) : Nat) : Int))),
    .v (.int .i64 (((lsI fs fs.length).length : Nat) : Int)),
    .v (.bool (((((lsI fs fs.length).length) : Nat) : Int) == (((lsI fs fs.length).length : Nat) : Int))),
    .m (st 3)]) (fun q62 L => L.set 3 (ob ((q1 2).blk 0) #[.bool (((((lsI fs fs.length).length) : Nat) : Int) == (((lsI fs fs.length).length : Nat) : Int))] 4)) OW ?_
   clear OW; intro q62 _ Wq62 OW; simp only [↓pc, ↓pn, vE, Hint.val, Act.put, eL]
   gi_wp2
   exact leafM HS HH OC45 OW [.c (.bool (((((lsI fs fs.length).length) : Nat) : Int) == (((lsI fs fs.length).length : Nat) : Int))) 3] Env.zero [] [(0, 0)] (by first | rfl | (refine congrArg Value.bool (beq_iff_eq.2 ?_); first | omega | (have q1 := HST.out stop.toNat; omega)))
end Go.Proofs.Ytckhkagkpldoiaa.E
