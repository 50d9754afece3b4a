/- The iterator Ones of 64 bits: its maker, and its contract; and words of 16 bits' weight. -/
import Derived.Test.YtbhonojfglhbeaaBitW
import Derived.Test.YtbhonojfglhbeaaRf
import Derived.Test.YtbhonojfglhbeaaMemP
import Derived.Shelf.Abstract
import Derived.OwnWalkIn
import Derived.TacticsInMore
import Derived.LoopNIn
import Derived.LoopIn
namespace Go.Proofs.Ytbhonojfglhbeaa
open Go.RowKit Go.Shelf
attribute [local go_sem] Oper.semAt_some

theorem ones64_any (a : Int) (w : World) :
    Calls Try.prog 26 #[.int .u64 a] w fun e w' =>
      e = .returned (.func (.func 32) #[] #[.pointer (some ⟨w.heap.size, 0, none⟩)]) ∧ w' = w.alloc (.cells #[.int .u64 a] 22) := by
  go_enter Try.func26, Try.ntmps26
  go_wp2
  go_ret
  exact ⟨rfl, rfl⟩

theorem drop_cons_get {α : Type} {xs : List α} {j : Nat} {y : α} {ys : List α} (h : xs.drop j = y :: ys) : xs[j]? = some y ∧ xs.drop (j + 1) = ys ∧ j < xs.length := by
  have h1 : (xs.drop j)[0]? = some y := by rw [h]; rfl
  rw [List.getElem?_drop, Nat.add_zero] at h1
  have hl : j < xs.length := (List.getElem?_eq_some_iff.1 h1).1
  refine ⟨h1, ?_, hl⟩
  rw [List.drop_eq_getElem_cons hl] at h
  exact (List.cons.inj h).2
theorem u64_and1 (z : Nat) (h : z < 18446744073709551616) : bits .and .u64 (z : Int) 1 = ((z % 2 : Nat) : Int) := by
  have := u64_and_nat z 1 h (by omega)
  rw [Nat.and_one_is_mod] at this
  exact this

set_option maxRecDepth 100000 in
set_option maxHeartbeats 1000000 in
theorem ones64_iter (n : Nat) (h1 : 1 ≤ n) (bx x : Nat) (lx : x < 18446744073709551616) :
    Iter Fence.wide n Try.prog 32 #[.pointer (some ⟨bx, 0, none⟩)]
      (fun p : Nat => #[.int .i64 (p : Int)]) (ones x) (fun c => c = bx) (fun c => c = bx)
      (fun W => Blk W bx 22 #[.int .u64 (x : Int)]) := by
  intro l J Jx W hSt hJ hJx hY h0
  have HY := Lib.hid hY
  have HJ := Lib.hid hJ
  have HJX := Lib.hid hJx
  have H0 := Lib.hid h0
  have HS := Lib.hid hSt
  clear hY hJ hJx h0 hSt
  refine callsIn_of_wp Try.func32 rfl trivial ?_ rfl
  simp only [Try.ntmps32, List.size_toArray, List.length_cons, List.length_nil, Nat.reduceAdd, Nat.reduceSub, Array.replicate_succ, Array.replicate_zero, List.push_toArray, List.append_toArray, List.nil_append, List.cons_append]
  gi_wp2
  gi_loopw [3] (fun i wr => ∃ k r z j : Nat, k + r = 64 ∧ i = .int .i64 k ∧ z < 2 ^ r ∧ Blk wr bx 22 #[.int .u64 (z : Int)] ∧ J j wr ∧ j ≤ (ones x).length ∧ (ones x).drop j = onesTo r k z) (fun i _ => 64 - (intOf i).toNat)
  case atStart => exact ⟨0, 64, x, 0, rfl, rfl, lx, HS.out, H0.out, Nat.zero_le _, by rw [List.drop_zero]; rfl⟩
  case round =>
    obtain ⟨k, r, z, j, hkr, rfl, hz, hb, hJj, hj, hd⟩ := hrel
    have hc := hb.cell 0
    have hf := hb.frozen 0
    simp only [List.getElem?_toArray, List.getElem?_cons_zero] at hc
    by_cases h0 : z = 0
    · subst h0
      rw [onesTo_zero] at hd
      have hlen : (ones x).length ≤ j := List.drop_eq_nil_iff.1 hd
      obtain rfl : j = (ones x).length := by omega
      have HJJ := Lib.hid hJj
      clear hJj hd hb
      gi_wp2
      go_end0
      exact ⟨⟨_, rfl⟩, .inl HJJ.out⟩
    · have hr0 : r ≠ 0 := by
        intro h
        subst h
        rw [Nat.pow_zero] at hz
        omega
      obtain ⟨r, rfl⟩ : ∃ q, r = q + 1 := ⟨r - 1, by omega⟩
      have hz64 : z < 18446744073709551616 := Nat.lt_of_lt_of_le hz (Nat.pow_le_pow_right (n := 2) (j := 64) (by omega) (by omega))
      have hz2 : z / 2 < 2 ^ r := by rw [Nat.pow_succ] at hz; omega
      have hand := u64_and1 z hz64
      have hz0 : 0 < z := by omega
      have HZ2 := Lib.hid hz2
      clear hz hz2
      rw [onesTo] at hd
      by_cases hodd : z % 2 = 1
      · rw [if_pos hodd] at hd
        obtain ⟨hg, hd2, hj2⟩ := drop_cons_get hd
        obtain ⟨fn, tmps, assign, body, hy, hR⟩ := HY.out j k wr hg hJj
        have hodd2 : ((z : Int) % 2 == 1) = true := by rw [beq_iff_eq]; omega
        have HB := Lib.hid hb
        have HD := Lib.hid hd2
        have HO := Lib.hid hodd
        clear hd hd2 hg hJj hb hodd
        gi_wp2
        refine hR.mono ?_
        rintro e W3 (⟨rfl, hJ3, hk3⟩ | ⟨rfl, hJx3⟩)
        · have hb3 : Blk W3 bx 22 #[.int .u64 (z : Int)] := (hk3.same bx rfl).trans HB.out
          have hc3 := hb3.cell 0
          have hf3 := hb3.frozen 0
          simp only [List.getElem?_toArray, List.getElem?_cons_zero] at hc3
          have HB3 := Lib.hid hb3
          have HJ3 := Lib.hid hJ3
          clear hy hR hb3 hJ3 hk3 hc hf
          gi_wp2
          go_roundw
          case rel => exact ⟨k + 1, r, z / 2, j + 1, by omega, by go_num, HZ2.out, by have h := HB3.out.set_ 0 (.int .u64 ((z : Int) / 2)); simpa using h, HJ.out _ _ _ HJ3.out (Turn.setCell (S := fun c => c = bx) W3 (p := ⟨bx, 0, none⟩) rfl _), by omega, HD.out⟩
          case measure => simp [intOf]; omega
        · gi_wp2
          refine bodyPost_ret (results_none rfl _ _ _) rfl ?_
          exact ⟨⟨_, rfl⟩, .inr ⟨j, hj2, hJx3⟩⟩
      · rw [if_neg hodd] at hd
        have hodd2 : ((z : Int) % 2 == 1) = false := by rw [beq_eq_false_iff_ne]; omega
        have HB := Lib.hid hb
        have HD := Lib.hid hd
        have HO := Lib.hid hodd
        have HJj := Lib.hid hJj
        clear hd hJj hb hodd
        gi_wp2
        refine ⟨fun _ h => (by cases h), ?_⟩
        gi_wp2
        go_roundw
        case rel => exact ⟨k + 1, r, z / 2, j, by omega, by go_num, HZ2.out, by have h := HB.out.set_ 0 (.int .u64 ((z : Int) / 2)); simpa using h, HJ.out _ _ _ HJj.out (Turn.setCell (S := fun c => c = bx) wr (p := ⟨bx, 0, none⟩) rfl _), hj, HD.out⟩
        case measure => simp [intOf]; omega
end Go.Proofs.Ytbhonojfglhbeaa
