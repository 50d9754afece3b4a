/- raw.Of: its maker, and its iterator's contract. -/
import Derived.Test.YtckhkagkpldoiaaRawW
import Derived.Test.YtckhkagkpldoiaaGrw
import Derived.Shelf.Abstract
import Derived.OwnWalkIn
import Derived.TacticsInMore
import Derived.LoopNIn
import Derived.LoopIn
namespace Go.Proofs.Ytckhkagkpldoiaa
open Go.RowKit Go.Shelf
attribute [local go_sem] Oper.semAt_some

theorem of_any (mode chip : Int) (w : World) :
    Calls Try.prog 95 #[.int .i64 mode, .int .i64 chip] w fun e w' =>
      e = .returned (.func (.func 107) #[] #[.pointer (some ⟨w.heap.size, 0, none⟩), .pointer (some ⟨w.heap.size + 1, 0, none⟩)]) ∧ w' = (w.alloc (.cells #[.int .i64 mode] 3)).alloc (.cells #[.int .i64 chip] 3) := by
  go_enter Try.func95, Try.ntmps95
  go_wp2
  go_ret
  exact ⟨rfl, rfl⟩

/-- Where a chip's bytes stand. -/
def ofL (mode chip : Int) : List Nat := if 0 ≤ chip ∧ chip < chN mode then (List.range (wdN mode)).map (fun w => chN mode * w + chip.toNat) else []
theorem ofL_in {mode chip : Int} (h : 0 ≤ chip ∧ chip < chN mode) : ofL mode chip = (List.range (wdN mode)).map (fun w => chN mode * w + chip.toNat) := if_pos h
theorem ofL_out {mode chip : Int} (h : ¬ (0 ≤ chip ∧ chip < chN mode)) : ofL mode chip = [] := if_neg h
theorem chN_le (mode : Int) : chN mode ≤ 36 := by unfold chN; split <;> (try split) <;> omega
theorem wdN_le (mode : Int) : wdN mode ≤ 8 := by unfold wdN; split <;> (try split) <;> omega

set_option maxRecDepth 100000 in
set_option maxHeartbeats 2000000 in
theorem of_iter (m : Nat) (h1 : 1 ≤ m) (bm bc : Nat) (mode chip : Int) :
    Iter3 Fence.wide m Try.prog 107 #[.pointer (some ⟨bm, 0, none⟩), .pointer (some ⟨bc, 0, none⟩)]
      (fun p : Nat => #[.int .i64 (p : Int)]) (ofL mode chip) (fun _ => False) (fun c => c = bm ∨ c = bc)
      (fun W => W.cell? ⟨bm, 0, none⟩ = some (.int .i64 mode) ∧ W.cell? ⟨bc, 0, none⟩ = some (.int .i64 chip)) := by
  intro l J Jx W O hSt hJ hJx hS hO hY h0
  obtain ⟨s1, s2⟩ := hSt
  have hbc : bc < W.heap.size := by
    obtain ⟨o, ho, _⟩ := cells_of_cell s2
    exact (Array.getElem?_eq_some_iff.1 ho).1
  have HC := Lib.hid (chips_any mode W)
  have HD := Lib.hid (words_any mode W)
  have HY := Lib.hid hY
  have H0 := Lib.hid h0
  have HBC := Lib.hid hbc
  have ln := chN_le mode
  have lw := wdN_le mode
  clear hY hJ hJx h0 hS hO hbc
  by_cases hin : 0 ≤ chip ∧ chip < chN mode
  · obtain ⟨c, rfl⟩ := Int.eq_ofNat_of_zero_le hin.1
    have hof := ofL_in hin
    obtain ⟨n, hn⟩ : ∃ n, chN mode = n := ⟨_, rfl⟩
    obtain ⟨d, hd⟩ : ∃ d, wdN mode = d := ⟨_, rfl⟩
    rw [hn] at HC hof hin ln
    rw [hd] at HD hof lw
    have hcn : c < n := by omega
    have hlen : (ofL mode (c : Int)).length = d := by rw [hof, List.length_map, List.length_range]
    have hget : ∀ j, j < d → (ofL mode (c : Int))[j]? = some (n * j + c) := fun j hj => by rw [hof, List.getElem?_map, List.getElem?_range hj]; rfl
    have HLEN := Lib.hid hlen
    have HGET := Lib.hid hget
    clear hin hof hn hd hlen hget
    refine callsIn_of_wp Try.func107 rfl trivial ?_ rfl
    simp only [Try.ntmps107, List.size_toArray, List.length_cons, List.length_nil, Nat.reduceAdd, Nat.reduceSub, Array.replicate_succ, Array.replicate_zero, List.push_toArray, List.append_toArray, List.nil_append, List.cons_append]
    gi_wp2_with fail
    refine ⟨trivial, ?_⟩
    refine (callsIn_wide.2 HC.out).mono ?_
    rintro e w2 ⟨rfl, rfl⟩
    gi_wp2_with fail
    refine ⟨trivial, ?_⟩
    refine (callsIn_wide.2 HD.out).mono ?_
    rintro e w2 ⟨rfl, rfl⟩
    gi_wp2
    gi_loopw [17] (fun i wr => ∃ j : Nat, ∃ O1 : Nat → Prop, j ≤ d ∧ i = .int .i64 j ∧ J j O1 wr ∧ W.heap.size ≤ wr.heap.size ∧ wr.heap[bc]? = W.heap[bc]?) (fun i _ => d - (intOf i).toNat)
    case atStart => exact ⟨0, O, by omega, rfl, H0.out, Nat.le_refl _, rfl⟩
    case round =>
      obtain ⟨j, O1, hj, rfl, hJ, hsz, hbk⟩ := hrel
      by_cases hlt : j < d
      · have e2 : wr.cell? ⟨bc, 0, none⟩ = some (.int .i64 (c : Int)) := by rw [World.cell?_of_block (a := ⟨bc, 0, none⟩) hbk]; exact s2
        obtain ⟨fn, tmps, assign, body, hy, hR⟩ := HY.out j (n * j + c) O1 wr (HGET.out j hlt) hJ hsz
        have hnj : n * j ≤ 36 * 8 := Nat.mul_le_mul ln (by omega)
        obtain ⟨m2, hm2⟩ : ∃ m2, n * j = m2 := ⟨_, rfl⟩
        have hm3 : (n : Int) * (j : Int) = (m2 : Int) := by rw [← hm2]; push_cast; rfl
        rw [hm2] at hy hnj
        push_cast at hy
        have HSZ := Lib.hid (And.intro hsz hbk)
        clear hJ hsz hbk hm2
        gi_wp2
        refine hR.mono ?_
        rintro e W3 ⟨O3, hgr, (⟨rfl, hJ3⟩ | ⟨rfl, hJ3⟩)⟩
        · have HJ3 := Lib.hid hJ3
          have HGR := Lib.hid (And.intro hgr.size (hgr.keep bc (Nat.lt_of_lt_of_le HBC.out HSZ.out.1) (.inr (.inr rfl))))
          clear hJ3 hgr hy hR e2 hm3
          gi_wp2
          go_roundw
          case rel => exact ⟨j + 1, O3, by omega, by go_num, HJ3.out, Nat.le_trans HSZ.out.1 HGR.out.1, HGR.out.2.trans HSZ.out.2⟩
          case measure => simp [intOf]; omega
        · have HJ3 := Lib.hid hJ3
          clear hJ3 hgr hy hR e2 hm3
          gi_wp2
          refine bodyPost_ret (results_none rfl _ _ _) rfl ?_
          exact ⟨⟨_, rfl⟩, .inr ⟨j, by rw [HLEN.out]; exact hlt, O3, HJ3.out⟩⟩
      · obtain rfl : j = d := by omega
        have HJ := Lib.hid hJ
        clear hJ hsz hbk
        gi_wp2
        go_end0
        exact ⟨⟨_, rfl⟩, .inl ⟨O1, by rw [HLEN.out]; exact HJ.out⟩⟩
  · have hof := ofL_out hin
    obtain ⟨n, hn⟩ : ∃ n, chN mode = n := ⟨_, rfl⟩
    rw [hn] at HC hin ln
    have HOF := Lib.hid hof
    clear hof hn lw
    by_cases hc0 : 0 ≤ chip
    · have hc1 : (n : Int) ≤ chip := by omega
      clear hin
      refine callsIn_of_wp Try.func107 rfl trivial ?_ rfl
      simp only [Try.ntmps107, List.size_toArray, List.length_cons, List.length_nil, Nat.reduceAdd, Nat.reduceSub, Array.replicate_succ, Array.replicate_zero, List.push_toArray, List.append_toArray, List.nil_append, List.cons_append]
      gi_wp2_with fail
      refine ⟨trivial, ?_⟩
      refine (callsIn_wide.2 HC.out).mono ?_
      rintro e w2 ⟨rfl, rfl⟩
      gi_wp2
      refine bodyPost_ret (results_none rfl _ _ _) rfl ?_
      exact ⟨⟨_, rfl⟩, .inl ⟨O, by rw [HOF.out]; exact H0.out⟩⟩
    · clear hin
      refine callsIn_of_wp Try.func107 rfl trivial ?_ rfl
      simp only [Try.ntmps107, List.size_toArray, List.length_cons, List.length_nil, Nat.reduceAdd, Nat.reduceSub, Array.replicate_succ, Array.replicate_zero, List.push_toArray, List.append_toArray, List.nil_append, List.cons_append]
      gi_wp2_with fail
      refine ⟨trivial, ?_⟩
      refine (callsIn_wide.2 HC.out).mono ?_
      rintro e w2 ⟨rfl, rfl⟩
      gi_wp2
      refine bodyPost_ret (results_none rfl _ _ _) rfl ?_
      exact ⟨⟨_, rfl⟩, .inl ⟨O, by rw [HOF.out]; exact H0.out⟩⟩
end Go.Proofs.Ytckhkagkpldoiaa
