/- The iterator Powers: its maker, and its contract. -/
import Derived.Test.YtdgflbbffimpkaaGfL
import Derived.Test.YtdgflbbffimpkaaGfM2
import Derived.Test.YtdgflbbffimpkaaRf
import Derived.Test.YtdgflbbffimpkaaMemP
import Derived.Shelf.Abstract
import Derived.OwnWalkIn
import Derived.TacticsInMore
import Derived.LoopNIn
import Derived.LoopIn
namespace Go.Proofs.Ytdgflbbffimpkaa
open Go.RowKit Go.Shelf
attribute [local go_sem] Oper.semAt_some

theorem Keep.cell {K : Nat → Prop} {W W' : World} (h : Keep K W W') {p : Addr} (hp : K p.block) {v : Value} (hc : W.cell? p = some v) : W'.cell? p = some v := by
  rw [World.cell?_of_block (h.same _ hp)]; exact hc

theorem Keep.drewN (K : Nat → Prop) (W : World) (n : Nat) : Keep K W (W.drewN n) := ⟨Nat.le_refl _, fun _ _ => rfl⟩

theorem powers_any (b : Nat) (a : Int) (n : Int) (w : World) :
    Calls Try.prog 34 #[.pointer (some ⟨b, 0, none⟩), .int .u8 a, .int .i64 n] w fun e w' =>
      e = .returned (.func (.func 41) #[] #[.pointer (some ⟨w.heap.size + 2, 0, none⟩), .pointer (some ⟨w.heap.size, 0, none⟩), .pointer (some ⟨w.heap.size + 1, 0, none⟩)]) ∧
      w' = ((w.alloc (.cells #[.pointer (some ⟨b, 0, none⟩)] 43)).alloc (.cells #[.int .u8 a] 5)).alloc (.cells #[.int .i64 n] 3) := by
  go_enter Try.func34, Try.ntmps34
  go_wp2
  go_ret
  exact ⟨rfl, rfl⟩

set_option maxRecDepth 100000 in
set_option maxHeartbeats 1000000 in
theorem powers_iter (n : Nat) (h1 : 1 ≤ n) (b bn bf ba x N : Nat) (lx : x < 256) (lN : N < 9223372036854775808) (m : Int) (hm : max m 0 = N) :
    Iter Fence.wide n Try.prog 41 #[.pointer (some ⟨bn, 0, none⟩), .pointer (some ⟨bf, 0, none⟩), .pointer (some ⟨ba, 0, none⟩)]
      (fun p : Nat × Nat => #[.int .i64 (p.1 : Int), .int .u8 (p.2 : Int)]) ((List.range N).map fun i => (i, gpow x i)) (fun _ => False) (fun c => c = bn ∨ c = bf ∨ c = ba ∨ c = b)
      (fun W => W.cell? ⟨bn, 0, none⟩ = some (.int .i64 m) ∧ W.cell? ⟨bf, 0, none⟩ = some (.pointer (some ⟨b, 0, none⟩)) ∧ W.cell? ⟨ba, 0, none⟩ = some (.int .u8 (x : Int)) ∧ FieldAt W b) := by
  intro l J Jx W hSt hJ hJx hY h0
  obtain ⟨s1, s2, s3, s4⟩ := hSt
  have HY := Lib.hid hY
  have HJ := Lib.hid hJ
  have H0 := Lib.hid h0
  have HS4 := Lib.hid s4
  have HM := Lib.hid hm
  clear hY hJ hJx h0 s4 hm
  refine callsIn_of_wp Try.func41 rfl trivial ?_ rfl
  simp only [Try.ntmps41, List.size_toArray, List.length_cons, List.length_nil, Nat.reduceAdd, Nat.reduceSub, Array.replicate_succ, Array.replicate_zero, List.push_toArray, List.append_toArray, List.nil_append, List.cons_append]
  by_cases hm0 : m < 0
  · obtain rfl : N = 0 := by have := HM.out; omega
    gi_wp2
    gi_loopw [9] (fun i wr => i = .int .i64 0 ∧ wr = W) (fun _ _ => 0)
    case atStart => exact ⟨rfl, rfl⟩
    case round =>
      obtain ⟨rfl, rfl⟩ := hrel
      gi_wp2
      go_end0
      exact ⟨⟨_, rfl⟩, .inl H0.out⟩
  · obtain rfl : m = (N : Int) := by have := HM.out; omega
    gi_wp2
    gi_loopw [5, 9] (fun p i wr => ∃ k : Nat, k ≤ N ∧ i = .int .i64 k ∧ p = .int .u8 (gpow x k : Nat) ∧ J k wr ∧ Keep (fun c => c = bn ∨ c = bf ∨ c = ba ∨ c = b) W wr) (fun _ i _ => N - (intOf i).toNat)
    case atStart => exact ⟨0, by omega, rfl, rfl, H0.out, Keep.refl _ _⟩
    case round =>
      obtain ⟨k, hk, rfl, rfl, hJk, hKp⟩ := hrel
      by_cases hlt : k < N
      · have hxs : ((List.range N).map fun i => (i, gpow x i))[k]? = some (k, gpow x k) := by rw [List.getElem?_map, List.getElem?_range hlt]; rfl
        obtain ⟨fn, tmps, assign, body, hy, hR⟩ := HY.out k _ wr hxs hJk
        dsimp only at hy
        have hg := gpow_lt x k
        have KP := Lib.hid hKp
        have HR := Lib.hid hR
        clear hxs hJk hKp hR
        gi_wp2
        refine HR.out.mono ?_
        rintro e W3 (⟨rfl, hJ3, hk3⟩ | ⟨rfl, hJx3⟩)
        · clear hy
          have hK2 := KP.out.trans hk3
          have t2 := hK2.cell (p := ⟨bf, 0, none⟩) (.inr (.inl rfl)) s2
          have t3 := hK2.cell (p := ⟨ba, 0, none⟩) (.inr (.inr (.inl rfl))) s3
          have hF : FieldAt W3 b := (hK2.same b (.inr (.inr (.inr rfl)))).trans HS4.out
          have HF := Lib.hid hF
          have HK2 := Lib.hid hK2
          have HJ3 := Lib.hid hJ3
          clear hK2 hF hk3 hJ3
          gi_wp2_with fail
          refine ⟨trivial, ?_⟩
          refine (callsIn_wide.2 (mul_any b _ _ (gpow x k) x rfl rfl hg lx _ HF.out)).mono ?_
          rintro e w2 ⟨rfl, q, rfl⟩
          gi_wp2
          go_roundw
          case rel => exact ⟨k + 1, by omega, by go_num, rfl, HJ.out _ _ _ HJ3.out (Turn.drewN _ _ _), HK2.out.trans (Keep.drewN _ _ _)⟩
          case measure => simp [intOf]; omega
        · gi_wp2
          refine bodyPost_ret (results_none rfl _ _ _) rfl ?_
          exact ⟨⟨_, rfl⟩, .inr ⟨k, by simpa using hlt, hJx3⟩⟩
      · obtain rfl : k = N := by omega
        gi_wp2
        go_end0
        exact ⟨⟨_, rfl⟩, .inl (by rw [List.length_map, List.length_range]; exact hJk)⟩
end Go.Proofs.Ytdgflbbffimpkaa
