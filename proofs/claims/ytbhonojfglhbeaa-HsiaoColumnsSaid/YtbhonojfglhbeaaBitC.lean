/- The iterators Choose: their makers, and their contracts. -/
import Derived.Test.YtbhonojfglhbeaaBitW
import Derived.Test.YtbhonojfglhbeaaBitM2
import Derived.Test.YtbhonojfglhbeaaRf
import Derived.Test.YtbhonojfglhbeaaMemP
import Derived.Shelf.Abstract
import Derived.OwnWalkIn
import Derived.TacticsInMore
import Derived.LoopNIn
import Derived.LoopIn
import Derived.Deep.QuietTactic
import Derived.BigQuiet
import Derived.RegionIn
import Derived.Stop.RegionWithIn
namespace Go.Proofs.Ytbhonojfglhbeaa
open Go.RowKit Go.Shelf
attribute [local go_sem] Oper.semAt_some

theorem drop_cons_getC {α : Type} {xs : List α} {j : Nat} {y : α} {ys : List α} (h : xs.drop j = y :: ys) : xs[j]? = some y ∧ xs.drop (j + 1) = ys ∧ j < xs.length := by
  have h1 : (xs.drop j)[0]? = some y := by rw [h]; rfl
  rw [List.getElem?_drop, Nat.add_zero] at h1
  have hl : j < xs.length := (List.getElem?_eq_some_iff.1 h1).1
  refine ⟨h1, ?_, hl⟩
  rw [List.drop_eq_getElem_cons hl] at h
  exact (List.cons.inj h).2
theorem Keep.cellC {K : Nat → Prop} {W W' : World} (h : Keep K W W') {p : Addr} (hp : K p.block) {v : Value} (hc : W.cell? p = some v) : W'.cell? p = some v := by
  rw [World.cell?_of_block (h.same _ hp)]; exact hc

/-- j words have come, and those from x on are left. -/
def ChS (n k T x j : Nat) : Prop := j ≤ (choose n k).length ∧ (choose n k).drop j = chTo (T - x) x k

theorem wide8 (w : World) : Calls Try.prog 30 #[] w fun e w' => e = .returned (.int .i64 8) ∧ w = w' := by
  have h8 : pc 255 = 8 := by decide +kernel
  go_enter Try.func30, Try.ntmps30
  go_wp2_with fail
  refine (weight8 255 255 rfl (by omega) _).mono ?_
  rintro e w2 ⟨rfl, rfl⟩
  go_wp2
  go_ret
  exact ⟨rfl, rfl⟩
theorem choose8_any (n k : Int) (w : World) :
    Calls Try.prog 25 #[.int .i64 n, .int .i64 k] w fun e w' =>
      e = .returned (.func (.func 29) #[] #[.pointer (some ⟨w.heap.size + 1, 0, none⟩), .pointer (some ⟨w.heap.size, 0, none⟩)]) ∧
      w' = (w.alloc (.cells #[.int .i64 n] 3)).alloc (.cells #[.int .i64 k] 3) := by
  go_enter Try.func25, Try.ntmps25
  go_wp2
  go_ret
  exact ⟨rfl, rfl⟩

set_option maxRecDepth 100000 in
set_option maxHeartbeats 1000000 in
theorem choose8_iter (m : Nat) (h1 : 1 ≤ m) (bn bk n k : Nat) (hk : k ≤ n) (hn : n ≤ 8) :
    Iter Fence.wide m Try.prog 29 #[.pointer (some ⟨bk, 0, none⟩), .pointer (some ⟨bn, 0, none⟩)]
      (fun p : Nat => #[.int .u8 (p : Int)]) (choose n k) (fun _ => False) (fun c => c = bn ∨ c = bk)
      (fun W => W.cell? ⟨bn, 0, none⟩ = some (.int .i64 n) ∧ W.cell? ⟨bk, 0, none⟩ = some (.int .i64 k)) := by
  intro l J Jx W hSt hJ hJx hY h0
  obtain ⟨s1, s2⟩ := hSt
  have HY := Lib.hid hY
  have HJ := Lib.hid hJ
  have H0 := Lib.hid h0
  clear hY hJ hJx h0
  have q0 : decide ((k : Int) < 0) = false := by simp
  have q1 : decide (n < k) = false := by simp; omega
  have q2 : decide ((8 : Int) < (n : Int)) = false := by simp; omega
  refine callsIn_of_wp Try.func29 rfl trivial ?_ rfl
  simp only [Try.ntmps29, List.size_toArray, List.length_cons, List.length_nil, Nat.reduceAdd, Nat.reduceSub, Array.replicate_succ, Array.replicate_zero, List.push_toArray, List.append_toArray, List.nil_append, List.cons_append]
  gi_wp2
  refine wpIn_wide.2 ?_
  go_quiet ((go_at_call 30; exact Calls.quiet_of_same ((wide8 _).mono fun _ _ h => ⟨h.1, h.2.symm⟩)))
  clear q0 q1 q2
  have hTl : 2 ^ n ≤ 2 ^ 8 := Nat.pow_le_pow_right (n := 2) (j := 8) (by omega) (by omega)
  obtain ⟨T, hT⟩ : ∃ T, 2 ^ n = T := ⟨_, rfl⟩
  rw [hT] at hTl
  have hw : IntKind.u64.wrap ((2 : Int) ^ n) = (T : Int) := by
    have : ((2 : Int) ^ n) = ((2 ^ n : Nat) : Int) := by simp
    rw [this, hT]
    exact IntWalk.u64_in _ (by omega)
  have HT := Lib.hid hT
  clear hT
  gi_wp2
  clear hw
  gi_loopw [21] (fun i wr => ∃ x j : Nat, x ≤ T ∧ i = .int .u64 x ∧ J j wr ∧ Keep (fun c => c = bn ∨ c = bk) W wr ∧ ChS n k T x j) (fun i _ => T - (intOf i).toNat)
  case atStart => exact ⟨0, 0, Nat.zero_le _, rfl, HJ.out _ _ _ H0.out (Turn.drewN _ _ _), ⟨Nat.le_refl _, fun _ _ => rfl⟩, Nat.zero_le _, by rw [List.drop_zero, choose, HT.out, Nat.sub_zero]⟩
  case round =>
    obtain ⟨x, j, hx, rfl, hJj, hKp, hcs⟩ := hrel
    obtain ⟨hj, hd⟩ : j ≤ (choose n k).length ∧ (choose n k).drop j = chTo (T - x) x k := hcs
    by_cases hlt : x < T
    · have t1 := hKp.cellC (p := ⟨bk, 0, none⟩) (.inr rfl) s2
      have hpl := pc_le x
      rw [show T - x = (T - (x + 1)) + 1 from by omega, chTo] at hd
      by_cases hpk : pc x = k
      · rw [if_pos hpk] at hd
        obtain ⟨hg, hd2, hj2⟩ := drop_cons_getC hd
        obtain ⟨fn, tmps, assign, body, hy, hR⟩ := HY.out j x wr.drew hg (HJ.out _ _ _ hJj (Turn.drewN _ _ 1))
        have hR2 : RoundIn Fence.wide (m - 1) Try.prog l fn tmps assign body wr.drew (fun e W' => ∃ b : Bool, e = .returned (.bool b) ∧ ((b = true ∧ J (j + 1) W' ∧ Keep (fun c => c = bn ∨ c = bk) wr.drew W') ∨ (b = false ∧ Jx (j + 1) W'))) :=
          hR.mono (fun e W' h => h.elim (fun h => ⟨true, h.1, .inl ⟨rfl, h.2⟩⟩) (fun h => ⟨false, h.1, .inr ⟨rfl, h.2⟩⟩))
        have hb : ((pc x : Int) == (k : Int)) = true := by rw [hpk]; exact beq_self_eq_true _
        have hwx : IntKind.u8.wrap (x : Int) = x := IntWalk.u8_in _ (by omega)
        have HR2 := Lib.hid hR2
        have HD := Lib.hid hd2
        have HK := Lib.hid hKp
        have HP := Lib.hid hpk
        have HJ1 := Lib.hid hj
        have HJ2 := Lib.hid hj2
        clear hd hd2 hg hJj hKp hpk hR hR2 hj hj2
        gi_wp2
        gi_region_with (first | (refine ⟨trivial, ?_⟩; gi_at_call 31; refine (callsIn_wide.2 (weight64 _ x rfl (by omega) _)).mono ?_; rintro e w2 ⟨rfl, rfl⟩) | (refine HR2.out.mono ?_; rintro e W3 ⟨b, rfl, hp⟩))
        all_goals
          clear hy
          simp only [Act.put, List.getElem_toArray, List.getElem_cons_succ, List.getElem_cons_zero, Array.setIfInBounds, List.size_toArray, List.length_cons, List.length_nil, Nat.reduceAdd, Nat.reduceLT, dif_pos, List.set_toArray, List.set_cons_succ, List.set_cons_zero]
          rcases hp with ⟨rfl, hJ3, hk3⟩ | ⟨rfl, hJx3⟩
          · have hk4 : Keep (fun c => c = bn ∨ c = bk) W W3 := HK.out.trans (Keep.trans (⟨Nat.le_refl _, fun _ _ => rfl⟩ : Keep (fun c => c = bn ∨ c = bk) wr wr.drew) hk3)
            have HK4 := Lib.hid hk4
            have HJ3 := Lib.hid hJ3
            clear hk3 hk4 hJ3 t1
            simp only [Bool.not_true]
            gi_wp2
            go_roundw
            case rel => exact ⟨x + 1, j + 1, by omega, by go_num, HJ3.out, HK4.out, HJ2.out, by rw [HD.out]⟩
            case measure => simp [intOf]; omega
          · have HJX3 := Lib.hid hJx3
            clear hJx3 t1
            simp only [Bool.not_false]
            gi_wp2
            refine bodyPost_ret (results_none rfl _ _ _) rfl ?_
            exact ⟨⟨_, rfl⟩, .inr ⟨j, HJ2.out, HJX3.out⟩⟩
      · rw [if_neg hpk] at hd
        have hb : ((pc x : Int) == (k : Int)) = false := by rw [beq_eq_false_iff_ne]; omega
        have HD := Lib.hid hd
        have HK := Lib.hid hKp
        have HP := Lib.hid hpk
        have HJj := Lib.hid hJj
        have HJ1 := Lib.hid hj
        clear hd hJj hKp hpk hj
        gi_wp2
        refine wpIn_wide.2 ?_
        go_quiet ((go_at_call 31; exact Calls.quiet_of_same ((weight64 _ x rfl (by omega) _).mono fun _ _ h => ⟨h.1, h.2.symm⟩)))
        clear t1
        gi_wp2
        go_roundw
        case rel => exact ⟨x + 1, j, by omega, by go_num, HJ.out _ _ _ HJj.out (Turn.drewN _ _ _), HK.out.trans ⟨Nat.le_refl _, fun _ _ => rfl⟩, HJ1.out, by rw [HD.out]⟩
        case measure => simp [intOf]; omega
    · obtain rfl : x = T := by omega
      rw [Nat.sub_self, chTo] at hd
      have hlen : (choose n k).length ≤ j := List.drop_eq_nil_iff.1 hd
      obtain rfl : j = (choose n k).length := by omega
      gi_wp2
      go_end0
      exact ⟨⟨_, rfl⟩, .inl hJj⟩
end Go.Proofs.Ytbhonojfglhbeaa
