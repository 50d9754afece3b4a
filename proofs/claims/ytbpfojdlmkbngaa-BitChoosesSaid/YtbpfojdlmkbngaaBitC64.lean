/- The iterator Choose of 64 bits; and the iterators that yield nothing. -/
import Derived.Test.YtbpfojdlmkbngaaBitC
import Derived.Test.YtbpfojdlmkbngaaBitM2
import Derived.Test.YtbpfojdlmkbngaaRf
import Derived.Test.YtbpfojdlmkbngaaMemP
import Derived.Shelf.Abstract
import Derived.OwnWalkIn
import Derived.TacticsInMore
import Derived.LoopNIn
import Derived.LoopIn
import Derived.Deep.QuietTactic
import Derived.BigQuiet
import Derived.RegionIn
import Derived.Stop.RegionWithIn
namespace Go.Proofs.Ytbpfojdlmkbngaa
open Go.RowKit Go.Shelf
attribute [local go_sem] Oper.semAt_some

theorem wide64 (w : World) : Calls Try.prog 30 #[] w fun e w' => e = .returned (.int .i64 64) ∧ w = w' := by
  have h8 : pc 18446744073709551615 = 64 := by decide +kernel
  go_enter Try.func30, Try.ntmps30
  go_wp2_with fail
  refine (weight64 18446744073709551615 18446744073709551615 rfl (by omega) _).mono ?_
  rintro e w2 ⟨rfl, rfl⟩
  go_wp2
  go_ret
  exact ⟨rfl, rfl⟩
theorem choose64_any (n k : Int) (w : World) :
    Calls Try.prog 11 #[.int .i64 n, .int .i64 k] w fun e w' =>
      e = .returned (.func (.func 29) #[] #[.pointer (some ⟨w.heap.size + 1, 0, none⟩), .pointer (some ⟨w.heap.size, 0, none⟩)]) ∧
      w' = (w.alloc (.cells #[.int .i64 n] 3)).alloc (.cells #[.int .i64 k] 3) := by
  go_enter Try.func11, Try.ntmps11
  go_wp2
  go_ret
  exact ⟨rfl, rfl⟩

set_option maxRecDepth 100000 in
set_option maxHeartbeats 1000000 in
theorem choose64_iter (m : Nat) (h1 : 1 ≤ m) (bn bk n k : Nat) (hk : k ≤ n) (hn : n ≤ 16) :
    Iter Fence.wide m Try.prog 29 #[.pointer (some ⟨bk, 0, none⟩), .pointer (some ⟨bn, 0, none⟩)]
      (fun p : Nat => #[.int .u64 (p : Int)]) (choose n k) (fun _ => False) (fun c => c = bn ∨ c = bk)
      (fun W => W.cell? ⟨bn, 0, none⟩ = some (.int .i64 n) ∧ W.cell? ⟨bk, 0, none⟩ = some (.int .i64 k)) := by
  intro l J Jx W hSt hJ hJx hY h0
  obtain ⟨s1, s2⟩ := hSt
  have HY := Lib.hid hY
  have HJ := Lib.hid hJ
  have H0 := Lib.hid h0
  clear hY hJ hJx h0
  have q0 : decide ((k : Int) < 0) = false := by simp
  have q1 : decide (n < k) = false := by simp; omega
  have q2 : decide ((16 : Int) < (n : Int)) = false := by simp; omega
  refine callsIn_of_wp Try.func29 rfl trivial ?_ rfl
  simp only [Try.ntmps29, List.size_toArray, List.length_cons, List.length_nil, Nat.reduceAdd, Nat.reduceSub, Array.replicate_succ, Array.replicate_zero, List.push_toArray, List.append_toArray, List.nil_append, List.cons_append]
  gi_wp2
  refine wpIn_wide.2 ?_
  go_quiet ((go_at_call 30; exact Calls.quiet_of_same ((wide64 _).mono fun _ _ h => ⟨h.1, h.2.symm⟩)))
  clear q0 q1 q2
  have hTl : 2 ^ n ≤ 2 ^ 16 := Nat.pow_le_pow_right (n := 2) (j := 16) (by omega) (by omega)
  obtain ⟨T, hT⟩ : ∃ T, 2 ^ n = T := ⟨_, rfl⟩
  rw [hT] at hTl
  have hw : IntKind.u64.wrap ((2 : Int) ^ n) = (T : Int) := by
    have : ((2 : Int) ^ n) = ((2 ^ n : Nat) : Int) := by simp
    rw [this, hT]
    exact IntWalk.u64_in _ (by omega)
  have HT := Lib.hid hT
  clear hT
  gi_wp2
  clear hw
  gi_loopw [21] (fun i wr => ∃ x j : Nat, x ≤ T ∧ i = .int .u64 x ∧ J j wr ∧ Keep (fun c => c = bn ∨ c = bk) W wr ∧ ChS n k T x j) (fun i _ => T - (intOf i).toNat)
  case atStart => exact ⟨0, 0, Nat.zero_le _, rfl, HJ.out _ _ _ H0.out (Turn.drewN _ _ _), ⟨Nat.le_refl _, fun _ _ => rfl⟩, Nat.zero_le _, by rw [List.drop_zero, choose, HT.out, Nat.sub_zero]⟩
  case round =>
    obtain ⟨x, j, hx, rfl, hJj, hKp, hcs⟩ := hrel
    obtain ⟨hj, hd⟩ : j ≤ (choose n k).length ∧ (choose n k).drop j = chTo (T - x) x k := hcs
    by_cases hlt : x < T
    · have t1 := hKp.cellC (p := ⟨bk, 0, none⟩) (.inr rfl) s2
      have hpl := pc_le x
      rw [show T - x = (T - (x + 1)) + 1 from by omega, chTo] at hd
      by_cases hpk : pc x = k
      · rw [if_pos hpk] at hd
        obtain ⟨hg, hd2, hj2⟩ := drop_cons_getC hd
        obtain ⟨fn, tmps, assign, body, hy, hR⟩ := HY.out j x wr.drew hg (HJ.out _ _ _ hJj (Turn.drewN _ _ 1))
        have hR2 : RoundIn Fence.wide (m - 1) Try.prog l fn tmps assign body wr.drew (fun e W' => ∃ b : Bool, e = .returned (.bool b) ∧ ((b = true ∧ J (j + 1) W' ∧ Keep (fun c => c = bn ∨ c = bk) wr.drew W') ∨ (b = false ∧ Jx (j + 1) W'))) :=
          hR.mono (fun e W' h => h.elim (fun h => ⟨true, h.1, .inl ⟨rfl, h.2⟩⟩) (fun h => ⟨false, h.1, .inr ⟨rfl, h.2⟩⟩))
        have hb : ((pc x : Int) == (k : Int)) = true := by rw [hpk]; exact beq_self_eq_true _
        have hwx : IntKind.u64.wrap (x : Int) = x := IntWalk.u64_in _ (by omega)
        have HR2 := Lib.hid hR2
        have HD := Lib.hid hd2
        have HK := Lib.hid hKp
        have HP := Lib.hid hpk
        have HJ1 := Lib.hid hj
        have HJ2 := Lib.hid hj2
        clear hd hd2 hg hJj hKp hpk hR hR2 hj hj2
        gi_wp2
        gi_region_with (first | (refine ⟨trivial, ?_⟩; gi_at_call 14; refine (callsIn_wide.2 (weight64 _ x rfl (by omega) _)).mono ?_; rintro e w2 ⟨rfl, rfl⟩) | (refine HR2.out.mono ?_; rintro e W3 ⟨b, rfl, hp⟩))
        all_goals
          clear hy
          simp only [Act.put, List.getElem_toArray, List.getElem_cons_succ, List.getElem_cons_zero, Array.setIfInBounds, List.size_toArray, List.length_cons, List.length_nil, Nat.reduceAdd, Nat.reduceLT, dif_pos, List.set_toArray, List.set_cons_succ, List.set_cons_zero]
          rcases hp with ⟨rfl, hJ3, hk3⟩ | ⟨rfl, hJx3⟩
          · have hk4 : Keep (fun c => c = bn ∨ c = bk) W W3 := HK.out.trans (Keep.trans (⟨Nat.le_refl _, fun _ _ => rfl⟩ : Keep (fun c => c = bn ∨ c = bk) wr wr.drew) hk3)
            have HK4 := Lib.hid hk4
            have HJ3 := Lib.hid hJ3
            clear hk3 hk4 hJ3 t1
            simp only [Bool.not_true]
            gi_wp2
            go_roundw
            case rel => exact ⟨x + 1, j + 1, by omega, by go_num, HJ3.out, HK4.out, HJ2.out, by rw [HD.out]⟩
            case measure => simp [intOf]; omega
          · have HJX3 := Lib.hid hJx3
            clear hJx3 t1
            simp only [Bool.not_false]
            gi_wp2
            refine bodyPost_ret (results_none rfl _ _ _) rfl ?_
            exact ⟨⟨_, rfl⟩, .inr ⟨j, HJ2.out, HJX3.out⟩⟩
      · rw [if_neg hpk] at hd
        have hb : ((pc x : Int) == (k : Int)) = false := by rw [beq_eq_false_iff_ne]; omega
        have HD := Lib.hid hd
        have HK := Lib.hid hKp
        have HP := Lib.hid hpk
        have HJj := Lib.hid hJj
        have HJ1 := Lib.hid hj
        clear hd hJj hKp hpk hj
        gi_wp2
        refine wpIn_wide.2 ?_
        go_quiet ((go_at_call 14; exact Calls.quiet_of_same ((weight64 _ x rfl (by omega) _).mono fun _ _ h => ⟨h.1, h.2.symm⟩)))
        clear t1
        gi_wp2
        go_roundw
        case rel => exact ⟨x + 1, j, by omega, by go_num, HJ.out _ _ _ HJj.out (Turn.drewN _ _ _), HK.out.trans ⟨Nat.le_refl _, fun _ _ => rfl⟩, HJ1.out, by rw [HD.out]⟩
        case measure => simp [intOf]; omega
    · obtain rfl : x = T := by omega
      rw [Nat.sub_self, chTo] at hd
      have hlen : (choose n k).length ≤ j := List.drop_eq_nil_iff.1 hd
      obtain rfl : j = (choose n k).length := by omega
      gi_wp2
      go_end0
      exact ⟨⟨_, rfl⟩, .inl hJj⟩

set_option maxRecDepth 100000 in
set_option maxHeartbeats 1000000 in
theorem choose64_none (m : Nat) (bn bk : Nat) (n k : Int) (hbad : k < 0 ∨ n < k ∨ 16 < n) :
    Iter Fence.wide m Try.prog 29 #[.pointer (some ⟨bk, 0, none⟩), .pointer (some ⟨bn, 0, none⟩)]
      (fun p : Nat => #[.int .u64 (p : Int)]) [] (fun _ => False) (fun c => c = bn ∨ c = bk)
      (fun W => W.cell? ⟨bn, 0, none⟩ = some (.int .i64 n) ∧ W.cell? ⟨bk, 0, none⟩ = some (.int .i64 k)) := by
  intro l J Jx W hSt hJ hJx hY h0
  obtain ⟨s1, s2⟩ := hSt
  have HJ := Lib.hid hJ
  have H0 := Lib.hid h0
  clear hY hJ h0
  refine callsIn_of_wp Try.func29 rfl trivial ?_ rfl
  simp only [Try.ntmps29, List.size_toArray, List.length_cons, List.length_nil, Nat.reduceAdd, Nat.reduceSub, Array.replicate_succ, Array.replicate_zero, List.push_toArray, List.append_toArray, List.nil_append, List.cons_append]
  by_cases h1 : k < 0
  · have q0 : decide (k < 0) = true := by simpa using h1
    clear hbad h1
    gi_wp2
    refine wpIn_wide.2 ?_
    go_quiet (fail)
    gi_wp2
    refine bodyPost_ret (results_none rfl _ _ _) rfl ?_
    exact ⟨⟨_, rfl⟩, .inl (HJ.out _ _ _ H0.out (Turn.drewN _ _ _))⟩
  · have q0 : decide (k < 0) = false := by simpa using h1
    by_cases h2 : n < k
    · have q1 : decide (n < k) = true := by simpa using h2
      clear hbad h1 h2
      gi_wp2
      refine wpIn_wide.2 ?_
      go_quiet (fail)
      gi_wp2
      refine bodyPost_ret (results_none rfl _ _ _) rfl ?_
      exact ⟨⟨_, rfl⟩, .inl (HJ.out _ _ _ H0.out (Turn.drewN _ _ _))⟩
    · have q1 : decide (n < k) = false := by simpa using h2
      have q2 : decide (16 < n) = true := by simp; omega
      clear hbad h1 h2
      gi_wp2
      refine wpIn_wide.2 ?_
      go_quiet ((go_at_call 30; exact Calls.quiet_of_same ((wide64 _).mono fun _ _ h => ⟨h.1, h.2.symm⟩)))
      gi_wp2
      refine bodyPost_ret (results_none rfl _ _ _) rfl ?_
      exact ⟨⟨_, rfl⟩, .inl (HJ.out _ _ _ H0.out (Turn.drewN _ _ _))⟩

set_option maxRecDepth 100000 in
set_option maxHeartbeats 1000000 in
theorem choose8_none (m : Nat) (bn bk : Nat) (n k : Int) (hbad : k < 0 ∨ n < k ∨ 8 < n) :
    Iter Fence.wide m Try.prog 31 #[.pointer (some ⟨bk, 0, none⟩), .pointer (some ⟨bn, 0, none⟩)]
      (fun p : Nat => #[.int .u8 (p : Int)]) [] (fun _ => False) (fun c => c = bn ∨ c = bk)
      (fun W => W.cell? ⟨bn, 0, none⟩ = some (.int .i64 n) ∧ W.cell? ⟨bk, 0, none⟩ = some (.int .i64 k)) := by
  intro l J Jx W hSt hJ hJx hY h0
  obtain ⟨s1, s2⟩ := hSt
  have HJ := Lib.hid hJ
  have H0 := Lib.hid h0
  clear hY hJ h0
  refine callsIn_of_wp Try.func31 rfl trivial ?_ rfl
  simp only [Try.ntmps31, List.size_toArray, List.length_cons, List.length_nil, Nat.reduceAdd, Nat.reduceSub, Array.replicate_succ, Array.replicate_zero, List.push_toArray, List.append_toArray, List.nil_append, List.cons_append]
  by_cases h1 : k < 0
  · have q0 : decide (k < 0) = true := by simpa using h1
    clear hbad h1
    gi_wp2
    refine wpIn_wide.2 ?_
    go_quiet (fail)
    gi_wp2
    refine bodyPost_ret (results_none rfl _ _ _) rfl ?_
    exact ⟨⟨_, rfl⟩, .inl (HJ.out _ _ _ H0.out (Turn.drewN _ _ _))⟩
  · have q0 : decide (k < 0) = false := by simpa using h1
    by_cases h2 : n < k
    · have q1 : decide (n < k) = true := by simpa using h2
      clear hbad h1 h2
      gi_wp2
      refine wpIn_wide.2 ?_
      go_quiet (fail)
      gi_wp2
      refine bodyPost_ret (results_none rfl _ _ _) rfl ?_
      exact ⟨⟨_, rfl⟩, .inl (HJ.out _ _ _ H0.out (Turn.drewN _ _ _))⟩
    · have q1 : decide (n < k) = false := by simpa using h2
      have q2 : decide (8 < n) = true := by simp; omega
      clear hbad h1 h2
      gi_wp2
      refine wpIn_wide.2 ?_
      go_quiet ((go_at_call 32; exact Calls.quiet_of_same ((wide8 _).mono fun _ _ h => ⟨h.1, h.2.symm⟩)))
      gi_wp2
      refine bodyPost_ret (results_none rfl _ _ _) rfl ?_
      exact ⟨⟨_, rfl⟩, .inl (HJ.out _ _ _ H0.out (Turn.drewN _ _ _))⟩
end Go.Proofs.Ytbpfojdlmkbngaa
