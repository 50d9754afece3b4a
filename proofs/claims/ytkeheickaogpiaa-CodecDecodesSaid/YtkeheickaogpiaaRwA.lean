/- Several texts in one: RawW RawI RawD RawQ RawU RawC ArrL RawE RawV RawM. -/
import Derived.Test.YtkeheickaogpiaaOwA
import Derived.Test.YtkeheickaogpiaaBtA
import Derived.WalkKit
import Derived.Lib.Hide
import Derived.Laws.AppendOwn
import Derived.StillTailTactics
import Derived.Test.YtkeheickaogpiaaRfA
import Derived.Shelf.Abstract
import Derived.OwnWalkIn
import Derived.TacticsInMore
import Derived.LoopNIn
import Derived.LoopIn
import Derived.Laws.StructEq
import Derived.ChangeKeysEq
import Derived.Sort.BigQuietIn
import Derived.Sort.CutIn
import Derived.Lib.Agree
import Derived.Deep.WholeRow
import Derived.Deep.RegionWith
import Derived.Deep.CutRange
namespace Go.Proofs.Ytkeheickaogpiaa
open Go.RowKit

def chN (mode : Int) : Nat := if mode = 1 then 9 else if mode = 2 then 36 else 0
def wdN (mode : Int) : Nat := if mode = 1 then 8 else if mode = 2 then 2 else 0
theorem modes (mode : Int) : mode = 1 ∨ mode = 2 ∨ (mode ≠ 1 ∧ mode ≠ 2) := by omega

theorem refChips_any (mode : Int) (w : World) : Calls Try.prog 44 #[.int .i64 mode] w fun e w' => e = .returned (.int .i64 (chN mode : Nat)) ∧ w = w' := by
  rcases modes mode with rfl | rfl | ⟨h1, h2⟩
  · go_enter Try.func44, Try.ntmps44
    go_wp2
    go_ret
    exact ⟨rfl, rfl⟩
  · go_enter Try.func44, Try.ntmps44
    go_wp2
    go_ret
    exact ⟨rfl, rfl⟩
  · have q1 : (mode == 1) = false := by rw [beq_eq_false_iff_ne]; exact h1
    have q2 : (mode == 2) = false := by rw [beq_eq_false_iff_ne]; exact h2
    have HE := Lib.hid (show chN mode = 0 by unfold chN; first | rw [if_neg h1, if_neg h2] | simp [h1, h2])
    clear h1 h2
    go_enter Try.func44, Try.ntmps44
    go_wp2
    go_ret
    exact ⟨by rw [HE.out]; rfl, rfl⟩
theorem chips_any (mode : Int) (w : World) : Calls Try.prog 52 #[.int .i64 mode] w fun e w' => e = .returned (.int .i64 (chN mode : Nat)) ∧ w = w' := by
  rcases modes mode with rfl | rfl | ⟨h1, h2⟩
  · go_enter Try.func52, Try.ntmps52
    go_wp2
    go_ret
    exact ⟨rfl, rfl⟩
  · go_enter Try.func52, Try.ntmps52
    go_wp2
    go_ret
    exact ⟨rfl, rfl⟩
  · have q1 : (mode == 1) = false := by rw [beq_eq_false_iff_ne]; exact h1
    have q2 : (mode == 2) = false := by rw [beq_eq_false_iff_ne]; exact h2
    have HE := Lib.hid (show chN mode = 0 by unfold chN; first | rw [if_neg h1, if_neg h2] | simp [h1, h2])
    clear h1 h2
    go_enter Try.func52, Try.ntmps52
    go_wp2
    go_ret
    exact ⟨by rw [HE.out]; rfl, rfl⟩
def rightB (mode : Int) : Bool := mode == 1 || mode == 2
theorem right_any (mode : Int) (w : World) : Calls Try.prog 32 #[.int .i64 mode] w fun e w' => e = .returned (.bool (rightB mode)) ∧ w = w' := by
  rcases modes mode with rfl | rfl | ⟨h1, h2⟩
  · go_enter Try.func32, Try.ntmps32
    go_wp2
    go_ret
    exact ⟨rfl, rfl⟩
  · go_enter Try.func32, Try.ntmps32
    go_wp2
    go_ret
    exact ⟨rfl, rfl⟩
  · have q1 : (mode == 1) = false := by rw [beq_eq_false_iff_ne]; exact h1
    have q2 : (mode == 2) = false := by rw [beq_eq_false_iff_ne]; exact h2
    have HE := Lib.hid (show rightB mode = false by unfold rightB; first | rw [if_neg h1, if_neg h2] | simp [h1, h2])
    clear h1 h2
    go_enter Try.func32, Try.ntmps32
    go_wp2
    go_ret
    exact ⟨by rw [HE.out]; rfl, rfl⟩
theorem words_any (mode : Int) (w : World) : Calls Try.prog 53 #[.int .i64 mode] w fun e w' => e = .returned (.int .i64 (wdN mode : Nat)) ∧ w = w' := by
  have HR := Lib.hid (right_any mode w)
  have HC := Lib.hid (chips_any mode w)
  rcases modes mode with rfl | rfl | ⟨h1, h2⟩
  case' inr.inr =>
    have HE := Lib.hid (show wdN mode = 0 by unfold wdN; rw [if_neg h1, if_neg h2])
    have hr : rightB mode = false := by unfold rightB; simp [h1, h2]
    rw [hr] at HR
    clear h1 h2 hr HC
    go_enter Try.func53, Try.ntmps53
    go_wp2_with fail
    refine HR.out.mono ?_
    rintro e w' ⟨rfl, rfl⟩
    go_wp2
    go_ret
    exact ⟨by rw [HE.out]; rfl, rfl⟩
  · rw [show rightB 1 = true from rfl] at HR
    rw [show chN 1 = 9 from rfl, show ((9 : Nat) : Int) = 9 from rfl] at HC
    have HE := Lib.hid (show wdN 1 = 8 from rfl)
    go_enter Try.func53, Try.ntmps53
    go_wp2_with fail
    refine HR.out.mono ?_
    rintro e w' ⟨rfl, rfl⟩
    go_wp2_with fail
    refine HC.out.mono ?_
    rintro e w' ⟨rfl, rfl⟩
    go_wp2
    go_ret
    exact ⟨by rw [HE.out]; rfl, rfl⟩
  · rw [show rightB 2 = true from rfl] at HR
    rw [show chN 2 = 36 from rfl, show ((36 : Nat) : Int) = 36 from rfl] at HC
    have HE := Lib.hid (show wdN 2 = 2 from rfl)
    go_enter Try.func53, Try.ntmps53
    go_wp2_with fail
    refine HR.out.mono ?_
    rintro e w' ⟨rfl, rfl⟩
    go_wp2_with fail
    refine HC.out.mono ?_
    rintro e w' ⟨rfl, rfl⟩
    go_wp2
    go_ret
    exact ⟨by rw [HE.out]; rfl, rfl⟩
end Go.Proofs.Ytkeheickaogpiaa
namespace Go.Proofs.Ytkeheickaogpiaa
open Go.RowKit Go.Shelf
attribute [local go_sem] Oper.semAt_some

theorem of_any (mode chip : Int) (w : World) :
    Calls Try.prog 45 #[.int .i64 mode, .int .i64 chip] w fun e w' =>
      e = .returned (.func (.func 68) #[] #[.pointer (some ⟨w.heap.size, 0, none⟩), .pointer (some ⟨w.heap.size + 1, 0, none⟩)]) ∧ w' = (w.alloc (.cells #[.int .i64 mode] 3)).alloc (.cells #[.int .i64 chip] 3) := by
  go_enter Try.func45, Try.ntmps45
  go_wp2
  go_ret
  exact ⟨rfl, rfl⟩

/-- Where a chip's bytes stand. -/
def ofL (mode chip : Int) : List Nat := if 0 ≤ chip ∧ chip < chN mode then (List.range (wdN mode)).map (fun w => chN mode * w + chip.toNat) else []
theorem ofL_in {mode chip : Int} (h : 0 ≤ chip ∧ chip < chN mode) : ofL mode chip = (List.range (wdN mode)).map (fun w => chN mode * w + chip.toNat) := if_pos h
theorem ofL_out {mode chip : Int} (h : ¬ (0 ≤ chip ∧ chip < chN mode)) : ofL mode chip = [] := if_neg h
theorem chN_le (mode : Int) : chN mode ≤ 36 := by unfold chN; split <;> (try split) <;> omega
theorem wdN_le (mode : Int) : wdN mode ≤ 8 := by unfold wdN; split <;> (try split) <;> omega

set_option maxRecDepth 100000 in
set_option maxHeartbeats 2000000 in
theorem of_iter (m : Nat) (h1 : 1 ≤ m) (bm bc : Nat) (mode chip : Int) :
    Iter3 Fence.wide m Try.prog 68 #[.pointer (some ⟨bm, 0, none⟩), .pointer (some ⟨bc, 0, none⟩)]
      (fun p : Nat => #[.int .i64 (p : Int)]) (ofL mode chip) (fun _ => False) (fun c => c = bm ∨ c = bc)
      (fun W => W.cell? ⟨bm, 0, none⟩ = some (.int .i64 mode) ∧ W.cell? ⟨bc, 0, none⟩ = some (.int .i64 chip)) := by
  intro l J Jx W O hSt hJ hJx hS hO hY h0
  obtain ⟨s1, s2⟩ := hSt
  have hbc : bc < W.heap.size := by
    obtain ⟨o, ho, _⟩ := cells_of_cell s2
    exact (Array.getElem?_eq_some_iff.1 ho).1
  have HC := Lib.hid (chips_any mode W)
  have HD := Lib.hid (words_any mode W)
  have HY := Lib.hid hY
  have H0 := Lib.hid h0
  have HBC := Lib.hid hbc
  have ln := chN_le mode
  have lw := wdN_le mode
  clear hY hJ hJx h0 hS hO hbc
  by_cases hin : 0 ≤ chip ∧ chip < chN mode
  · obtain ⟨c, rfl⟩ := Int.eq_ofNat_of_zero_le hin.1
    have hof := ofL_in hin
    obtain ⟨n, hn⟩ : ∃ n, chN mode = n := ⟨_, rfl⟩
    obtain ⟨d, hd⟩ : ∃ d, wdN mode = d := ⟨_, rfl⟩
    rw [hn] at HC hof hin ln
    rw [hd] at HD hof lw
    have hcn : c < n := by omega
    have hlen : (ofL mode (c : Int)).length = d := by rw [hof, List.length_map, List.length_range]
    have hget : ∀ j, j < d → (ofL mode (c : Int))[j]? = some (n * j + c) := fun j hj => by rw [hof, List.getElem?_map, List.getElem?_range hj]; rfl
    have HLEN := Lib.hid hlen
    have HGET := Lib.hid hget
    clear hin hof hn hd hlen hget
    refine callsIn_of_wp Try.func68 rfl trivial ?_ rfl
    simp only [Try.ntmps68, List.size_toArray, List.length_cons, List.length_nil, Nat.reduceAdd, Nat.reduceSub, Array.replicate_succ, Array.replicate_zero, List.push_toArray, List.append_toArray, List.nil_append, List.cons_append]
    gi_wp2_with fail
    refine ⟨trivial, ?_⟩
    refine (callsIn_wide.2 HC.out).mono ?_
    rintro e w2 ⟨rfl, rfl⟩
    gi_wp2_with fail
    refine ⟨trivial, ?_⟩
    refine (callsIn_wide.2 HD.out).mono ?_
    rintro e w2 ⟨rfl, rfl⟩
    gi_wp2
    gi_loopw [17] (fun i wr => ∃ j : Nat, ∃ O1 : Nat → Prop, j ≤ d ∧ i = .int .i64 j ∧ J j O1 wr ∧ W.heap.size ≤ wr.heap.size ∧ wr.heap[bc]? = W.heap[bc]?) (fun i _ => d - (intOf i).toNat)
    case atStart => exact ⟨0, O, by omega, rfl, H0.out, Nat.le_refl _, rfl⟩
    case round =>
      obtain ⟨j, O1, hj, rfl, hJ, hsz, hbk⟩ := hrel
      by_cases hlt : j < d
      · have e2 : wr.cell? ⟨bc, 0, none⟩ = some (.int .i64 (c : Int)) := by rw [World.cell?_of_block (a := ⟨bc, 0, none⟩) hbk]; exact s2
        obtain ⟨fn, tmps, assign, body, hy, hR⟩ := HY.out j (n * j + c) O1 wr (HGET.out j hlt) hJ hsz
        have hnj : n * j ≤ 36 * 8 := Nat.mul_le_mul ln (by omega)
        obtain ⟨m2, hm2⟩ : ∃ m2, n * j = m2 := ⟨_, rfl⟩
        have hm3 : (n : Int) * (j : Int) = (m2 : Int) := by rw [← hm2]; push_cast; rfl
        rw [hm2] at hy hnj
        push_cast at hy
        have HSZ := Lib.hid (And.intro hsz hbk)
        clear hJ hsz hbk hm2
        gi_wp2
        refine hR.mono ?_
        rintro e W3 ⟨O3, hgr, (⟨rfl, hJ3⟩ | ⟨rfl, hJ3⟩)⟩
        · have HJ3 := Lib.hid hJ3
          have HGR := Lib.hid (And.intro hgr.size (hgr.keep bc (Nat.lt_of_lt_of_le HBC.out HSZ.out.1) (.inr (.inr rfl))))
          clear hJ3 hgr hy hR e2 hm3
          gi_wp2
          go_roundw
          case rel => exact ⟨j + 1, O3, by omega, by go_num, HJ3.out, Nat.le_trans HSZ.out.1 HGR.out.1, HGR.out.2.trans HSZ.out.2⟩
          case measure => simp [intOf]; omega
        · have HJ3 := Lib.hid hJ3
          clear hJ3 hgr hy hR e2 hm3
          gi_wp2
          refine bodyPost_ret (results_none rfl _ _ _) rfl ?_
          exact ⟨⟨_, rfl⟩, .inr ⟨j, by rw [HLEN.out]; exact hlt, O3, HJ3.out⟩⟩
      · obtain rfl : j = d := by omega
        have HJ := Lib.hid hJ
        clear hJ hsz hbk
        gi_wp2
        go_end0
        exact ⟨⟨_, rfl⟩, .inl ⟨O1, by rw [HLEN.out]; exact HJ.out⟩⟩
  · have hof := ofL_out hin
    obtain ⟨n, hn⟩ : ∃ n, chN mode = n := ⟨_, rfl⟩
    rw [hn] at HC hin ln
    have HOF := Lib.hid hof
    clear hof hn lw
    by_cases hc0 : 0 ≤ chip
    · have hc1 : (n : Int) ≤ chip := by omega
      clear hin
      refine callsIn_of_wp Try.func68 rfl trivial ?_ rfl
      simp only [Try.ntmps68, List.size_toArray, List.length_cons, List.length_nil, Nat.reduceAdd, Nat.reduceSub, Array.replicate_succ, Array.replicate_zero, List.push_toArray, List.append_toArray, List.nil_append, List.cons_append]
      gi_wp2_with fail
      refine ⟨trivial, ?_⟩
      refine (callsIn_wide.2 HC.out).mono ?_
      rintro e w2 ⟨rfl, rfl⟩
      gi_wp2
      refine bodyPost_ret (results_none rfl _ _ _) rfl ?_
      exact ⟨⟨_, rfl⟩, .inl ⟨O, by rw [HOF.out]; exact H0.out⟩⟩
    · clear hin
      refine callsIn_of_wp Try.func68 rfl trivial ?_ rfl
      simp only [Try.ntmps68, List.size_toArray, List.length_cons, List.length_nil, Nat.reduceAdd, Nat.reduceSub, Array.replicate_succ, Array.replicate_zero, List.push_toArray, List.append_toArray, List.nil_append, List.cons_append]
      gi_wp2_with fail
      refine ⟨trivial, ?_⟩
      refine (callsIn_wide.2 HC.out).mono ?_
      rintro e w2 ⟨rfl, rfl⟩
      gi_wp2
      refine bodyPost_ret (results_none rfl _ _ _) rfl ?_
      exact ⟨⟨_, rfl⟩, .inl ⟨O, by rw [HOF.out]; exact H0.out⟩⟩
end Go.Proofs.Ytkeheickaogpiaa
namespace Go.Proofs.Ytkeheickaogpiaa
open Go.RowKit

/-- A word's bytes. -/
def wordB (mode : Int) (xs : List UInt8) (word : Int) : List UInt8 := if 0 ≤ word ∧ word < wdN mode then (xs.drop (chN mode * word.toNat)).take (chN mode) else []
theorem boxRaw (cv : Array Value) (w : World) : (Instr.box 27 (.agg cv)).run Try.prog w = .ok (.pointer (some ⟨w.heap.size, 0, none⟩)) (w.alloc (.cells cv 27)) := rfl
theorem mode_fit {mode : Int} {k : Nat} (h : k < wdN mode) : (mode = 1 ∨ mode = 2) ∧ chN mode * k + chN mode ≤ 72 ∧ 9 ≤ chN mode := by
  rcases modes mode with rfl | rfl | ⟨h1, h2⟩
  · have e1 : wdN 1 = 8 := rfl
    have e2 : chN 1 = 9 := rfl
    rw [e1] at h
    rw [e2]; omega
  · have e1 : wdN 2 = 2 := rfl
    have e2 : chN 2 = 36 := rfl
    rw [e1] at h
    rw [e2]; omega
  · have e1 : wdN mode = 0 := by unfold wdN; rw [if_neg h1, if_neg h2]
    omega

theorem rawLen : Try.prog.arrayLen 27 = 72 := by kernel_rfl
theorem rawSize (W : World) : (sizeOf (Try.prog.elem 27)).run Try.prog W = .ok 1 W := by kernel_rfl
theorem addr_addN (g m : Nat) : (⟨g, 0, none⟩ : Addr).add m = ⟨g, m, none⟩ := by unfold Addr.add; split <;> simp_all
theorem rawSlice_l (g m : Nat) (hm : m < 72) (W : World) :
    (Instr.sliceAt 27 (.pointer (some ⟨g, 0, none⟩)) (some (.int .i64 (m : Int))) none none).run Try.prog W = .ok (.slice (some ⟨g, m, none⟩) (72 - m) (72 - m)) W := by
  rw [run_sliceAt_array_l (P := Try.prog) (w := W) (t := 27) (a := ⟨g, 0, none⟩) (by kernel_rfl) (kl := .i64) (l := (m : Int)) (by omega) (by rw [rawLen]; omega), rawSize, Result.andThen_ok]
  unfold slicedAt
  rw [rawLen, Int.toNat_natCast, Nat.mul_one, addr_addN, if_neg (by omega)]
theorem wpList_copy_run {P : Program} {w w' : World} {ops : Array Oper} {rest : List Oper} {o : Oper} {a : Act} {Q : Exit → Act → World → Prop} (hgd : o.guard = none) (d s : Operand) (dT sT ty : TypeId)
    (ho : o.op = .call { callee := .builtin .copy, args := #[d, s], argTypes := #[dT, sT] }) (hty : o.type = ty) (dv sv v : Value) (hd : a.eval d = dv) (hs : a.eval s = sv)
    (hr : (Builtin.copy_ #[dT, sT] ty #[dv, sv]).run P w = .ok v w') (h : wpList P ops Q rest (a.put o.dst v) w') : wpList P ops Q (o :: rest) a w := by
  subst hty
  refine wpList_plain hgd fun K hK => ?_
  unfold Oper.wp execOp
  simp only [ho, resolve, invoke, builtin, Sem.run_bind, Sem.run_pure, Result.andThen_ok, List.map_toArray, List.map_cons, List.map_nil, hd, hs, hr]
  exact hK _ _ h

/-- A word's bytes put. -/
def putB (mode : Int) (xs : List UInt8) (word : Int) (b : List UInt8) : List UInt8 :=
  if (0 ≤ word ∧ word < wdN mode) ∧ b.length = chN mode then xs.take (chN mode * word.toNat) ++ b ++ xs.drop (chN mode * word.toNat + chN mode) else xs
theorem putB_len {mode : Int} {xs : List UInt8} {word : Int} {b : List UInt8} (h : xs.length = 72) : (putB mode xs word b).length = 72 := by
  unfold putB
  split
  · rename_i hc
    obtain ⟨⟨h0, h1⟩, h2⟩ := hc
    obtain ⟨k, rfl⟩ := Int.eq_ofNat_of_zero_le h0
    obtain ⟨_, hf, _⟩ := mode_fit (mode := mode) (k := k) (by omega)
    rw [Int.toNat_natCast, List.length_append, List.length_append, List.length_take, List.length_drop, h2]
    omega
  · exact h
theorem infoRaw : (Try.prog.info? 27).map (·.size) = some 72 := by kernel_rfl
def zero72 : List UInt8 := List.replicate 72 0
theorem zeroRaw (w : World) : (zeroValue 27).run Try.prog w = .ok (.agg (rawV zero72)) w := by kernel_rfl

set_option maxRecDepth 100000 in
set_option maxHeartbeats 1000000 in
theorem put_any (xs : List UInt8) (hl : xs.length = 72) (mode word : Int) (A : Option Addr) (n c : Nat) (ys : List UInt8) (hn : ys.length = n) (w : World) (hy : RdB w A ys) :
    Calls Try.prog 25 #[.agg (rawV xs), .int .i64 mode, .int .i64 word, .slice A n c] w fun e w' => e = .returned (.agg (rawV (putB mode xs word ys))) ∧ Below w.heap.size w w' := by
  have hb := boxRaw (rawV xs)
  have hz := zeroRaw
  have HD := Lib.hid (fun w => words_any mode w)
  have HC := Lib.hid (fun w => chips_any mode w)
  have hsz0 : (rawV xs).size = 72 := by rw [rawV_size, hl]
  have hinf : ∀ zs : List UInt8, zs.length = 72 → (Try.prog.info? 27).map (·.size) = some (rawV zs).size := fun zs hz => by rw [rawV_size, hz]; exact infoRaw
  obtain ⟨d, hd⟩ : ∃ d, wdN mode = d := ⟨_, rfl⟩
  obtain ⟨m, hm⟩ : ∃ m, chN mode = m := ⟨_, rfl⟩
  obtain ⟨g, hg⟩ : ∃ g, w.heap.size = g := ⟨_, rfl⟩
  obtain ⟨W, hW⟩ : ∃ W, (w.alloc (.cells (rawV xs) 27)).alloc (.cells (rawV zero72) 27) = W := ⟨_, rfl⟩
  have k0 : Blk W g 27 (rawV xs) := by rw [← hW, ← hg]; exact (Blk.new w _ _).alloc _
  have k1 : Blk W (g + 1) 27 (rawV zero72) := by
    rw [← hW, ← hg]; have h := Blk.new (w.alloc (.cells (rawV xs) 27)) 27 (rawV zero72)
    rw [World.size_alloc] at h; exact h
  have kb : Below g w W := by rw [← hW, ← hg]; exact ((Below.refl _ w).alloc (Nat.le_refl _) _).alloc (by simp) _
  have kr : RdB W A ys := hy.below (by rw [hg]; exact kb)
  by_cases hin : (0 ≤ word ∧ word < wdN mode) ∧ ys.length = chN mode
  · have hp : putB mode xs word ys = xs.take (chN mode * word.toNat) ++ ys ++ xs.drop (chN mode * word.toNat + chN mode) := if_pos hin
    have hpl := putB_len (mode := mode) (word := word) (b := ys) hl
    obtain ⟨⟨q0, q1⟩, q2⟩ := hin
    obtain ⟨k, rfl⟩ := Int.eq_ofNat_of_zero_le q0
    obtain ⟨_, hfit, h9⟩ := mode_fit (mode := mode) (k := k) (by omega)
    rw [Int.toNat_natCast] at hp
    rw [hd] at HD q1
    rw [hm] at HC hp hfit h9 q2
    obtain rfl : n = m := by omega
    obtain ⟨s0, hs⟩ : ∃ s0, n * k = s0 := ⟨_, rfl⟩
    have hs3 : (n : Int) * (k : Int) = (s0 : Int) := by rw [← hs]; push_cast; rfl
    rw [hs] at hp hfit
    obtain ⟨PB, hPB⟩ : ∃ PB, putB mode xs (k : Int) ys = PB := ⟨_, rfl⟩
    rw [hPB] at hp hpl ⊢
    have hsl := rawSlice_l g s0 (by omega)
    obtain ⟨b, o, hA, hlb, _⟩ := kr 0 (by omega)
    subst hA
    have hsrc : ∀ (j : Nat) (v : Value), (ys.map fun x => Value.int .u8 (x.toNat : Int))[j]? = some v → W.cell? ((⟨b, o, none⟩ : Addr).add j) = some v := fun j v hv => by
      have hj : j < ys.length := by have := (List.getElem?_eq_some_iff.1 hv).1; rwa [List.length_map] at this
      obtain ⟨b', o', hA', _, hc'⟩ := kr j hj
      cases hA'
      have hadd : (⟨b, o, none⟩ : Addr).add j = ⟨b, o + j, none⟩ := by unfold Addr.add; split <;> simp_all
      rw [hadd, hc', ← hv, List.getElem?_map, List.getD_eq_getElem?_getD, List.getElem?_eq_getElem hj]
      rfl
    have hcp := run_copy_row Try.prog W 56 56 3 5 g s0 (72 - s0) (72 - s0) ⟨b, o, none⟩ n c (rawV xs) 27 (ys.map fun x => Value.int .u8 (x.toNat : Int)) Try.underlying56 (by kernel_rfl) k0
      (by rw [List.length_map, hn]; exact (Nat.min_eq_left (by omega)).symm) hsrc (by rw [List.length_map, hn, hsz0]; omega) (fun v hv => by obtain ⟨_, _, rfl⟩ := List.mem_map.1 hv; rfl)
    have hnew : ((rawV xs).toList.take s0 ++ (ys.map fun x => Value.int .u8 (x.toNat : Int)) ++ (rawV xs).toList.drop (s0 + (ys.map fun x => Value.int .u8 (x.toNat : Int)).length)).toArray = rawV PB := by
      rw [hp, List.length_map, hn]
      unfold rawV
      rw [List.map_append, List.map_append, List.map_take, List.map_drop]
    rw [hnew] at hcp
    have hx := And.intro ((k0.setRow (rawV PB) : Blk (W.setRow g (rawV PB)) g 27 (rawV PB))) (And.intro (k1.farRow (k := g) (by omega) (rawV PB)) (And.intro (hinf PB hpl) (And.intro (show (rawV zero72).size = (rawV PB).size by rw [rawV_size, rawV_size, hpl]; rfl) (And.intro (rawV_one PB) (below_setRow kb (Nat.le_refl _) (rawV PB))))))
    obtain ⟨cv2, hcv⟩ : ∃ cv, rawV PB = cv := ⟨_, rfl⟩
    obtain ⟨cv, hcv0⟩ : ∃ cv, rawV xs = cv := ⟨_, rfl⟩
    rw [hcv] at hcp hx ⊢
    rw [hcv0] at hb hW ⊢
    have HX := Lib.hid hx
    have HG := Lib.hid hg
    have HCP := Lib.hid hcp
    have i1 : (k : Int) < (d : Int) := q1
    clear hp hpl hcv hcv0 hsz0 hinf hx kr hy k0 k1 kb hd hm hl hcp hnew hsrc hPB hs hn q0 q1 q2
    go_enter Try.func25, Try.ntmps25
    go_wp2_with fail
    clear hb hz hW hg
    refine (HC.out _).mono ?_
    rintro e w' ⟨rfl, rfl⟩
    go_wp2_with fail
    refine (HD.out _).mono ?_
    rintro e w' ⟨rfl, rfl⟩
    go_wp2_with (first
      | (refine wpList_copy_run rfl (.tmp 29) (.tmp 30) 56 56 3 rfl rfl _ _ _ rfl rfl HCP.out ?_)
      | (refine wpList_load_row rfl 27 (.tmp 4) rfl g rfl 27 cv2 (0, 0) _ HX.out.1 Try.underlying27 rfl HX.out.2.2.1 ?_)
      | (refine wpList_store_row rfl 27 (.tmp 8) (.tmp 32) rfl (g + 1) cv2 rfl rfl 27 (rawV zero72) HX.out.2.1 HX.out.2.2.1 HX.out.2.2.2.1 HX.out.2.2.2.2.1 ?_))
    refine bodyPost_ret (v := .agg cv2) (results_cell_row rfl _ _ (g + 1) 27 cv2 (0, 0) _ rfl (HX.out.2.1.setRow _) Try.underlying27 rfl HX.out.2.2.1) rfl ⟨rfl, ?_⟩
    rw [HG.out]
    exact below_setRow HX.out.2.2.2.2.2 (by omega) _
  · have hp : putB mode xs word ys = xs := if_neg hin
    rw [hp]
    have hx := And.intro k0 (And.intro k1 (And.intro (hinf xs hl) (And.intro (show (rawV zero72).size = (rawV xs).size by rw [hsz0, rawV_size]; rfl) (And.intro (rawV_one xs) kb))))
    obtain ⟨cv2, hcv⟩ : ∃ cv, rawV xs = cv := ⟨_, rfl⟩
    rw [hcv] at hb hx hW ⊢
    rw [hd, hm] at hin
    rw [hd] at HD
    rw [hm] at HC
    have HX := Lib.hid hx
    have HG := Lib.hid hg
    have HN := Lib.hid hn
    clear hp hcv hsz0 hinf hx kr hy k0 k1 kb hd hm hl
    by_cases h0 : 0 ≤ word
    · by_cases h1 : word < d
      · have h2 : ((n : Int) == (m : Int)) = false := by rw [beq_eq_false_iff_ne]; intro h; exact hin ⟨⟨h0, h1⟩, by have := HN.out; omega⟩
        clear hin hn
        go_enter Try.func25, Try.ntmps25
        go_wp2_with fail
        clear hb hz hW hg
        refine (HC.out _).mono ?_
        rintro e w' ⟨rfl, rfl⟩
        go_wp2_with fail
        refine (HD.out _).mono ?_
        rintro e w' ⟨rfl, rfl⟩
        go_wp2_with (first
          | fail
          | (refine wpList_load_row rfl 27 (.tmp 4) rfl g rfl 27 cv2 (0, 0) _ HX.out.1 Try.underlying27 rfl HX.out.2.2.1 ?_)
          | (refine wpList_store_row rfl 27 (.tmp 8) (.tmp 32) rfl (g + 1) cv2 rfl rfl 27 (rawV zero72) HX.out.2.1 HX.out.2.2.1 HX.out.2.2.2.1 HX.out.2.2.2.2.1 ?_))
        refine bodyPost_ret (v := .agg cv2) (results_cell_row rfl _ _ (g + 1) 27 cv2 (0, 0) _ rfl (HX.out.2.1.setRow _) Try.underlying27 rfl HX.out.2.2.1) rfl ⟨rfl, ?_⟩
        rw [HG.out]
        exact below_setRow HX.out.2.2.2.2.2 (by omega) _
      · have h2 : (d : Int) ≤ word := by omega
        clear hin hn
        go_enter Try.func25, Try.ntmps25
        go_wp2_with fail
        clear hb hz hW hg
        refine (HC.out _).mono ?_
        rintro e w' ⟨rfl, rfl⟩
        go_wp2_with fail
        refine (HD.out _).mono ?_
        rintro e w' ⟨rfl, rfl⟩
        go_wp2_with (first
          | fail
          | (refine wpList_load_row rfl 27 (.tmp 4) rfl g rfl 27 cv2 (0, 0) _ HX.out.1 Try.underlying27 rfl HX.out.2.2.1 ?_)
          | (refine wpList_store_row rfl 27 (.tmp 8) (.tmp 32) rfl (g + 1) cv2 rfl rfl 27 (rawV zero72) HX.out.2.1 HX.out.2.2.1 HX.out.2.2.2.1 HX.out.2.2.2.2.1 ?_))
        refine bodyPost_ret (v := .agg cv2) (results_cell_row rfl _ _ (g + 1) 27 cv2 (0, 0) _ rfl (HX.out.2.1.setRow _) Try.underlying27 rfl HX.out.2.2.1) rfl ⟨rfl, ?_⟩
        rw [HG.out]
        exact below_setRow HX.out.2.2.2.2.2 (by omega) _
    · clear hin hn
      go_enter Try.func25, Try.ntmps25
      go_wp2_with fail
      clear hb hz hW hg
      refine (HC.out _).mono ?_
      rintro e w' ⟨rfl, rfl⟩
      go_wp2_with (first
        | fail
        | (refine wpList_load_row rfl 27 (.tmp 4) rfl g rfl 27 cv2 (0, 0) _ HX.out.1 Try.underlying27 rfl HX.out.2.2.1 ?_)
        | (refine wpList_store_row rfl 27 (.tmp 8) (.tmp 32) rfl (g + 1) cv2 rfl rfl 27 (rawV zero72) HX.out.2.1 HX.out.2.2.1 HX.out.2.2.2.1 HX.out.2.2.2.2.1 ?_))
      refine bodyPost_ret (v := .agg cv2) (results_cell_row rfl _ _ (g + 1) 27 cv2 (0, 0) _ rfl (HX.out.2.1.setRow _) Try.underlying27 rfl HX.out.2.2.1) rfl ⟨rfl, ?_⟩
      rw [HG.out]
      exact below_setRow HX.out.2.2.2.2.2 (by omega) _
end Go.Proofs.Ytkeheickaogpiaa
namespace Go.Proofs.Ytkeheickaogpiaa
open Go.RowKit

end Go.Proofs.Ytkeheickaogpiaa
namespace Go.Proofs.Ytkeheickaogpiaa
open Go.RowKit

/-- The unlike bytes of the first k pairs. -/
def ulB (xs ys : List UInt8) : Nat → Nat
  | 0 => 0
  | k + 1 => ulB xs ys k + if xs.getD k 0 = ys.getD k 0 then 0 else 1
theorem ulB_le (xs ys : List UInt8) (k : Nat) : ulB xs ys k ≤ k := by
  induction k with
  | zero => exact Nat.le_refl 0
  | succ k ih => rw [ulB]; split <;> omega
def ul (mode : Int) (xs ys : List UInt8) : Nat := if mode = 1 then dI xs ys else ulB xs ys xs.length

end Go.Proofs.Ytkeheickaogpiaa
namespace Go.Proofs.Ytkeheickaogpiaa
open Go.RowKit Go.Shelf
attribute [local go_sem] Oper.semAt_some

/-- A chip's bytes set: the first i of them, and all. -/
def chipP (mode : Int) (xs : List UInt8) (chip : Int) (v : UInt8) (i : Nat) : List UInt8 := ((ofL mode chip).take i).foldl (fun l x => l.set x v) xs
def chipB (mode : Int) (xs : List UInt8) (chip : Int) (v : UInt8) : List UInt8 := chipP mode xs chip v (ofL mode chip).length
theorem set_len (v : UInt8) : ∀ (L : List Nat) (xs : List UInt8), (L.foldl (fun l x => l.set x v) xs).length = xs.length
  | [], _ => rfl
  | x :: L, xs => by rw [List.foldl_cons, set_len v L, List.length_set]
theorem chipP_len (mode : Int) (xs : List UInt8) (chip : Int) (v : UInt8) (i : Nat) : (chipP mode xs chip v i).length = xs.length := set_len v _ _
theorem chipP_succ {mode : Int} {xs : List UInt8} {chip : Int} {v : UInt8} {i x : Nat} (h : (ofL mode chip)[i]? = some x) : chipP mode xs chip v (i + 1) = (chipP mode xs chip v i).set x v := by
  unfold chipP
  rw [List.take_add_one, h, List.foldl_append]
  rfl
theorem of_lt {mode chip : Int} {i x : Nat} (h : (ofL mode chip)[i]? = some x) : x < 72 := by
  unfold ofL at h
  split at h
  · rename_i hin
    have hi : i < wdN mode := by have := (List.getElem?_eq_some_iff.1 h).1; rw [List.length_map, List.length_range] at this; exact this
    rw [List.getElem?_map, List.getElem?_range hi] at h
    have h2 := (Option.some.inj h).symm
    obtain ⟨_, hf, _⟩ := mode_fit hi
    simp only at h2
    omega
  · simp at h

set_option maxRecDepth 100000 in
set_option maxHeartbeats 2000000 in
theorem chip_any (xs : List UInt8) (lx : xs.length = 72) (mode chip : Int) (v : UInt8) (w : World) :
    Calls Try.prog 20 #[.agg (rawV xs), .int .i64 mode, .int .i64 chip, .int .u8 (v.toNat : Int)] w fun e w' => e = .returned (.agg (rawV (chipB mode xs chip v))) ∧ Below w.heap.size w w' := by
  have hb := boxRaw (rawV xs)
  have hz := zeroRaw
  have hinf : ∀ zs : List UInt8, zs.length = 72 → (Try.prog.info? 27).map (·.size) = some (rawV zs).size := fun zs hz => by rw [rawV_size, hz]; exact infoRaw
  have HINF := Lib.hid hinf
  have HX := Lib.hid lx
  have HIT := Lib.hid (fun bm bc => of_iter (6 - 1) (by omega) bm bc mode chip)
  have HP0 := Lib.hid (show chipP mode xs chip v 0 = xs from rfl)
  obtain ⟨cv, hcv⟩ : ∃ cv, rawV xs = cv := ⟨_, rfl⟩
  rw [hcv] at hb ⊢
  have HCV := Lib.hid hcv
  obtain ⟨b0, hb0⟩ : ∃ b0, w.heap.size = b0 := ⟨_, rfl⟩
  have HB0 := Lib.hid hb0
  have lv := v.toNat_lt
  obtain ⟨y, hy⟩ : ∃ y, v.toNat = y := ⟨_, rfl⟩
  have HYV := Lib.hid hy
  rw [hy] at lv ⊢
  clear hinf lx hcv hy
  refine (callsIn_wide (n := 6)).1 ?_
  refine callsIn_of_wp_marks Try.func20 rfl trivial ?_ rfl
  simp only [Try.ntmps20, List.size_toArray, List.length_cons, List.length_nil, Nat.reduceAdd, Nat.reduceSub, Array.replicate_succ, Array.replicate_zero, List.push_toArray, List.append_toArray, List.nil_append, List.cons_append]
  gi_wp2_with fail
  refine ⟨trivial, ?_⟩
  clear hb hz
  refine (callsIn_wide.2 (of_any _ _ _)).mono ?_
  rintro e U0 ⟨rfl, hw4⟩
  have M0 : Blk U0 b0 27 cv := by rw [hw4, ← hb0]; exact ((((Blk.new w _ _).alloc _).alloc _).alloc _).alloc _
  have M1 : Blk U0 (b0 + 1) 5 #[.int .u8 (y : Int)] := by
    rw [hw4, ← hb0]; have h := (Blk.new (w.alloc (.cells cv 27)) 5 #[.int .u8 (y : Int)]); rw [World.size_alloc] at h; exact ((h.alloc _).alloc _).alloc _
  have M2 : Blk U0 (b0 + 2) 27 (rawV zero72) := by
    rw [hw4, ← hb0]; have h := (Blk.new ((w.alloc (.cells cv 27)).alloc (.cells #[.int .u8 (y : Int)] 5)) 27 (rawV zero72)); simp only [World.size_alloc] at h; exact (h.alloc _).alloc _
  have M3 : U0.cell? ⟨b0 + 3, 0, none⟩ = some (.int .i64 mode) := by
    have h := (Blk.new (((w.alloc (.cells cv 27)).alloc (.cells #[.int .u8 (y : Int)] 5)).alloc (.cells (rawV zero72) 27)) 3 #[.int .i64 mode]); simp only [World.size_alloc] at h
    rw [hw4, ← hb0]; exact (h.alloc _).cell 0
  have M4 : U0.cell? ⟨b0 + 4, 0, none⟩ = some (.int .i64 chip) := by
    have h := (Blk.new ((((w.alloc (.cells cv 27)).alloc (.cells #[.int .u8 (y : Int)] 5)).alloc (.cells (rawV zero72) 27)).alloc (.cells #[.int .i64 mode] 3)) 3 #[.int .i64 chip]); simp only [World.size_alloc] at h
    rw [hw4, ← hb0]; exact h.cell 0
  have MB : Below b0 w U0 := by
    rw [hw4, ← hb0]; exact (((((Below.refl w.heap.size w).alloc (Nat.le_refl _) _).alloc (by simp) _).alloc (by simp; omega) _).alloc (by simp; omega) _).alloc (by simp; omega) _
  have MZ : U0.heap.size = b0 + 5 := by rw [hw4, ← hb0]; simp
  have N0 := Lib.hid M0
  have N1 := Lib.hid M1
  have N2 := Lib.hid M2
  have N3 := Lib.hid M3
  have N4 := Lib.hid M4
  have NB := Lib.hid MB
  have NZ := Lib.hid MZ
  simp only [World.size_alloc]
  rw [hb0]
  clear M0 M1 M2 M3 M4 MB MZ hw4 hb0
  gi_wp2
  refine iter_law3 (n := 6) rfl (by omega) (gf := 68) (lb := #[.pointer (some ⟨b0 + 3, 0, none⟩), .pointer (some ⟨b0 + 4, 0, none⟩)]) rfl trivial (enters_of Try.func68 (by kernel_rfl) rfl)
    (HIT.out (b0 + 3) (b0 + 4)) (fun b => b < b0 + 5) ?hSt ?hO (fun _ h => h.elim) ?hK (fun _ => rfl)
    (fun i O U => O = (fun b => b < b0 + 5) ∧ Blk U b0 27 (rawV (chipP mode xs chip v i)) ∧ Blk U (b0 + 1) 5 #[.int .u8 (y : Int)] ∧ Blk U (b0 + 2) 27 (rawV zero72) ∧ Below b0 w U ∧ b0 + 5 ≤ U.heap.size)
    (fun _ _ _ _ => False)
    ?hI ?hIx ?h0 ?act1 ?assign ?body ?done ?stop
  case hSt =>
    intro U hU
    have wz := NZ.out
    exact ⟨by rw [World.cell?_of_block (a := ⟨b0 + 3, 0, none⟩) (hU (b0 + 3) (by omega))]; exact N3.out, by rw [World.cell?_of_block (a := ⟨b0 + 4, 0, none⟩) (hU (b0 + 4) (by omega))]; exact N4.out⟩
  case hO => intro b hb; have := NZ.out; omega
  case hK => intro b hb; have := NZ.out; omega
  case hI =>
    rintro i O A B ⟨rfl, h0, h1, h2, h3, h4⟩ t
    have k := fun {b : Nat} {cs : Array Value} {ty : TypeId} (h : Blk A b ty cs) (hb : b < b0 + 5) => (t.heap (fun e => e hb) h : Blk B b ty cs)
    exact ⟨rfl, k h0 (by omega), k h1 (by omega), k h2 (by omega), h3.trans (t.below (by omega) (fun b hb => by
      rcases Nat.lt_or_ge b b0 with hlt | hge
      · exact (hb (by omega)).elim
      · exact hge)), Nat.le_trans h4 t.size⟩
  case hIx => rintro c i O A B h t; exact h.elim
  case h0 => exact ⟨rfl, by rw [HP0.out, HCV.out]; exact N0.out, N1.out, N2.out, NB.out, by have := NZ.out; omega⟩
  case assign =>
    intro l x W K hK
    gi_wp2
    exact hK
  case body =>
    rintro l i x O U hx hsz ⟨rfl, h0, h1, h2, h3, h4⟩
    have hx72 := of_lt hx
    have HS := Lib.hid (chipP_succ (xs := xs) (v := v) hx)
    have hpl : (chipP mode xs chip v i).length = 72 := by rw [chipP_len, HX.out]
    have e0 := (h0.cell x).trans (rawV_get _ (i := x) (by rw [hpl]; exact hx72))
    have f0 := h0.frozen x
    have e1 := h1.cell 0
    simp only [List.getElem?_toArray, List.getElem?_cons_zero] at e1
    have i1 : (x : Int) < 72 := by omega
    have HI := Lib.hid (And.intro h0 (And.intro h1 (And.intro h2 (And.intro h3 h4))))
    clear h0 h1 h2 h3 h4 hsz hpl hx
    gi_wp2
    obtain ⟨h0, h1, h2, h3, h4⟩ := HI.out
    refine ⟨_, (Grow.refl _ (fun b hb => by omega)).setCell (p := ⟨b0, x, none⟩) (.inr ⟨by show b0 < b0 + 5; omega, fun h => by rcases h with h | h <;> (have h' : b0 = _ := h; omega)⟩) _, rfl, ?_, h1.far (p := ⟨b0, x, none⟩) (by show b0 + 1 ≠ b0; omega) _, h2.far (p := ⟨b0, x, none⟩) (by show b0 + 2 ≠ b0; omega) _, h3.setCell (p := ⟨b0, x, none⟩) (by show b0 ≤ b0; omega) _, by simp [World.setCell]; exact h4⟩
    rw [HS.out, ← rawV_set, HYV.out]
    exact h0.set_ x _
  case stop => rintro Dm c i O1 U hD hnD hlen h hK; exact h.elim
  case done =>
    rintro Dm O1 U hD hnD ⟨rfl, h0, h1, h2, h3, h4⟩ hK
    have hcl : (chipB mode xs chip v).length = 72 := by unfold chipB; rw [chipP_len, HX.out]
    have hb : chipP mode xs chip v (ofL mode chip).length = chipB mode xs chip v := rfl
    rw [hb] at h0
    have HI := Lib.hid (HINF.out _ hcl)
    have L1 := run_loadVar_row (P := Try.prog) U b0 27 27 (rawV (chipB mode xs chip v)) (0, 0) _ h0 Try.underlying27 rfl HI.out
    have S1 := run_storeVar_row (P := Try.prog) U (b0 + 2) 27 27 (rawV zero72) (rawV (chipB mode xs chip v)) h2 HI.out (by rw [rawV_size, rawV_size, hcl]; rfl) (rawV_one _)
    obtain ⟨pv, hpv⟩ : ∃ pv, rawV (chipB mode xs chip v) = pv := ⟨_, rfl⟩
    rw [hpv] at L1 S1 h0 HI
    have HPV := Lib.hid hpv
    have H2 := Lib.hid h2
    have H3 := Lib.hid h3
    have HK := Lib.hid hK
    clear h0 h1 h2 h3 h4 hK hcl hb hpv
    gi_wp2_with (first | (refine wpListIn_load_at rfl 27 (.tmp 4) rfl ⟨b0, 0, none⟩ rfl (.agg pv) L1 ?_) | (refine wpListIn_store_at rfl 27 (.tmp 8) (.tmp 17) rfl ⟨b0 + 1 + 1, 0, none⟩ rfl (.agg pv) rfl S1 ?_))
    have nz := NZ.out
    have hKD : (U.setRow (b0 + 2) pv).heap[Dm]? = some (.deferred (some [])) := (setRow_other U (b0 + 2) Dm pv (by omega)).trans HK.out
    have hbk : ((U.setRow (b0 + 2) pv).putObj Dm (.deferred none)).heap[b0 + 2]? = some (.cells pv 27 (0, 0)) := (World.putObj_heap_other (by omega)).trans (H2.out.setRow pv)
    refine ⟨by simp, .inl ⟨_, _, rfl, run_takeDeferred hKD, ?_⟩⟩
    refine ⟨.agg pv, results_cell_row rfl _ _ (b0 + 2) 27 pv (0, 0) _ rfl hbk Try.underlying27 rfl HI.out, by rw [HPV.out], ?_⟩
    have q := H3.out
    have hb0 := HB0.out
    rw [← hb0] at q
    have hq := below_setRow q (g := b0 + 2) (by omega) pv
    exact hq.trans ((Turn.putObj (S := fun b => w.heap.size ≤ b) _ (l := Dm) (by omega) _).below hq.size (fun b hb => hb))
end Go.Proofs.Ytkeheickaogpiaa
namespace Go.Proofs.Ytkeheickaogpiaa
open Go.RowKit

def rowAt (W : World) (a : Addr) : Option (Array Value) := match a with
  | ⟨g, 0, none⟩ => (match W.heap[g]? with
    | some (.cells cs _ (0, 0)) => if cs.size = 72 then some cs else none
    | _ => none)
  | _ => none
def slowVar (t : TypeId) (a : Addr) : Sem Value := loadVar t a
theorem load_row_down (W : World) (a : Addr) : (loadVar 27 a).run Try.prog W = match rowAt W a with
    | some cs => .ok (.agg cs) W
    | none => (slowVar 27 a).run Try.prog W := by
  cases h : rowAt W a with
  | none => rfl
  | some cs =>
    unfold rowAt at h
    split at h
    · split at h
      · rename_i g _ cs' t hc
        split at h
        · rename_i hs
          cases h
          have hi : (Try.prog.info? 27).map (·.size) = some cs.size := by rw [hs]; exact infoRaw
          exact run_loadVar_row (P := Try.prog) W g t 27 cs (0, 0) _ hc Try.underlying27 rfl hi
        · cases h
      · cases h
    · cases h
theorem Blk.row {W : World} {g : Nat} {t : TypeId} {cs : Array Value} (h : Blk W g t cs) (hs : cs.size = 72) : rowAt W ⟨g, 0, none⟩ = some cs := by
  unfold rowAt
  simp only [show W.heap[g]? = some (.cells cs t (0, 0)) from h]
  exact if_pos hs
theorem load_var_step {P : Program} (t : TypeId) (W : World) (a : Addr) : (loadVar t a).run P W = ((isAgg t).run P W).andThen fun b w' => if b then ((sizeOf t).run P w').andThen (fun n w2 => ((loadCells a n).run P w2).andThen fun cs w3 => .ok (.agg cs) w3) else (load a).run P w' := by
  unfold loadVar
  rw [Sem.run_bind]
  congr 1
  funext b w'
  cases b <;> simp [Sem.run_bind]
end Go.Proofs.Ytkeheickaogpiaa
namespace Go.Proofs.Ytkeheickaogpiaa
open Go.RowKit
attribute [-go_sem] loadVar
attribute [local go_sem high] load_row_down
attribute [local go_sem low] load_var_step

/-- How much two are exposed to one another: over the first k words, and over all. -/
def exP (mode : Int) (xs ys : List UInt8) : Nat → Nat
  | 0 => 0
  | k + 1 => max (exP mode xs ys k) (ul mode (wordB mode xs (k : Int)) (wordB mode ys (k : Int)))
def expo (mode : Int) (xs ys : List UInt8) : Nat := exP mode xs ys (wdN mode)
theorem word_len {mode : Int} {xs : List UInt8} {k : Nat} (hl : xs.length = 72) (h : k < wdN mode) : (wordB mode xs (k : Int)).length = chN mode := by
  obtain ⟨_, hf, _⟩ := mode_fit h
  unfold wordB
  rw [if_pos (by omega), Int.toNat_natCast, List.length_take, List.length_drop]
  omega
theorem chN_le' (mode : Int) : chN mode ≤ 36 := by unfold chN; split <;> (try split) <;> omega
theorem ul_le36 {mode : Int} {xs ys : List UInt8} (h1 : xs.length ≤ 36) (h2 : ys.length ≤ 36) : ul mode xs ys ≤ 64 * 36 := by
  unfold ul
  split
  · unfold dI
    have := dfB_le xs ys (min xs.length ys.length)
    omega
  · have := ulB_le xs ys xs.length
    omega
theorem word_le (mode : Int) (xs : List UInt8) (k : Int) : (wordB mode xs k).length ≤ 36 := by
  have := chN_le' mode
  unfold wordB
  split
  · rw [List.length_take]; omega
  · exact Nat.zero_le _
theorem exP_le (mode : Int) (xs ys : List UInt8) (k : Nat) : exP mode xs ys k ≤ 64 * 36 := by
  induction k with
  | zero => exact Nat.zero_le _
  | succ k ih =>
    have := ul_le36 (mode := mode) (word_le mode xs (k : Int)) (word_le mode ys (k : Int))
    rw [exP]
    omega
def At2 (w : World) (b0 : Nat) (cv dv : Array Value) (W : World) : Prop := Blk W b0 27 cv ∧ Blk W (b0 + 1) 27 dv ∧ Below b0 w W ∧ b0 + 2 ≤ W.heap.size
theorem At2.below {w : World} {b0 : Nat} {cv dv : Array Value} {W W' : World} (h : At2 w b0 cv dv W) (hb : Below W.heap.size W W') : At2 w b0 cv dv W' := by
  obtain ⟨h0, h1, h2, h3⟩ := h
  exact ⟨h0.below hb (by omega), h1.below hb (by omega), h2.trans (hb.mono (by omega)), Nat.le_trans h3 hb.size⟩

end Go.Proofs.Ytkeheickaogpiaa
namespace Go.Proofs.Ytkeheickaogpiaa
open Go.RowKit

theorem alRaw : ∀ w : World, (Instr.alloc 27 true (.tuple #[])).run Try.prog w = .ok (.pointer (some ⟨w.heap.size, 0, none⟩)) (w.alloc (.cells (rawV zero72) 27)) := fun _ => by kernel_rfl
end Go.Proofs.Ytkeheickaogpiaa
namespace Go.Proofs.Ytkeheickaogpiaa
open Go.RowKit

/-- What one pair of bytes costs. -/
def cst (mode : Int) (a b : UInt8) : Nat := if mode = 1 then pc (a ^^^ b).toNat else if a = b then 0 else 1
theorem pc_eq0 {n : Nat} (h : n < 2 ^ 64) : pc n = 0 ↔ n = 0 := by
  constructor
  · intro h0
    rcases Nat.eq_zero_or_pos n with h1 | h1
    · exact h1
    · have := pc_and_pred n h1 h
      omega
  · rintro rfl; exact pc_zero
theorem u8_xor_self (a : UInt8) : a ^^^ a = 0 := by
  apply UInt8.toNat_inj.1
  rw [UInt8.toNat_xor, Nat.xor_self]; rfl
theorem u8_xor_zero {a b : UInt8} (h : (a ^^^ b).toNat = 0) : a = b := by
  apply UInt8.toNat_inj.1
  rw [UInt8.toNat_xor] at h
  have h2 := congrArg (· ^^^ b.toNat) h
  simpa [Nat.xor_assoc] using h2
theorem cst_self (mode : Int) (a : UInt8) : cst mode a a = 0 := by
  unfold cst
  split
  · rw [u8_xor_self]; exact pc_zero
  · rw [if_pos rfl]
theorem cst_zero {mode : Int} {a b : UInt8} : cst mode a b = 0 ↔ a = b := by
  constructor
  · intro h
    unfold cst at h
    split at h
    · have := (a ^^^ b).toNat_lt
      exact u8_xor_zero ((pc_eq0 (by omega)).1 h)
    · split at h
      · assumption
      · omega
  · rintro rfl; exact cst_self _ _
theorem pc_xor_le (a b : Nat) : pc (a ^^^ b) ≤ pc a + pc b := by have := pc_xor a b; omega
theorem cst_tri (mode : Int) (a b c : UInt8) : cst mode a c ≤ cst mode a b + cst mode b c := by
  unfold cst
  by_cases h : mode = 1
  · rw [if_pos h, if_pos h, if_pos h]
    have e : (a ^^^ c).toNat = (a ^^^ b).toNat ^^^ (b ^^^ c).toNat := by
      rw [UInt8.toNat_xor, UInt8.toNat_xor, UInt8.toNat_xor, Nat.xor_assoc, ← Nat.xor_assoc b.toNat, Nat.xor_self, Nat.zero_xor]
    rw [e]
    exact pc_xor_le _ _
  · rw [if_neg h, if_neg h, if_neg h]
    by_cases h1 : a = b
    · subst h1; rw [if_pos rfl]; omega
    · by_cases h2 : b = c
      · subst h2; rw [if_neg h1, if_pos rfl]; omega
      · rw [if_neg h1]; split <;> omega
theorem pc8_le {n : Nat} (h : n < 256) : pc n ≤ 8 := by
  have h1 : pc n = pcTo 8 n := (pcTo_eq 8 n (by omega) (by omega)).symm
  rw [h1]; exact pcTo_le 8 n
theorem cst_le (mode : Int) (a b : UInt8) : cst mode a b ≤ if mode = 1 then 8 else 1 := by
  unfold cst
  split
  · exact pc8_le (a ^^^ b).toNat_lt
  · split <;> omega

/-- A sum of the first n. -/
def sumN (f : Nat → Nat) : Nat → Nat
  | 0 => 0
  | k + 1 => sumN f k + f k
theorem sumN_congr {f g : Nat → Nat} : ∀ n, (∀ i, i < n → f i = g i) → sumN f n = sumN g n
  | 0, _ => rfl
  | n + 1, h => by rw [sumN, sumN, sumN_congr n (fun i hi => h i (by omega)), h n (by omega)]
theorem sumN_zero {f : Nat → Nat} : ∀ n, sumN f n = 0 ↔ ∀ i, i < n → f i = 0
  | 0 => ⟨fun _ i hi => by omega, fun _ => rfl⟩
  | n + 1 => by
    rw [sumN]
    constructor
    · intro h i hi
      by_cases e : i = n
      · subst e; omega
      · exact (sumN_zero n).1 (by omega) i (by omega)
    · intro h
      rw [(sumN_zero n).2 (fun i hi => h i (by omega)), h n (by omega)]
theorem sumN_add (f g : Nat → Nat) : ∀ n, sumN (fun i => f i + g i) n = sumN f n + sumN g n
  | 0 => rfl
  | n + 1 => by rw [sumN, sumN, sumN, sumN_add f g n]; omega
theorem sumN_le {f g : Nat → Nat} : ∀ n, (∀ i, i < n → f i ≤ g i) → sumN f n ≤ sumN g n
  | 0, _ => Nat.le_refl _
  | n + 1, h => by rw [sumN, sumN]; have := sumN_le n (fun i hi => h i (by omega)); have := h n (by omega); omega
/-- One alone is not 0. -/
theorem sumN_one {f : Nat → Nat} {c : Nat} : ∀ n, (∀ i, i < n → i ≠ c → f i = 0) → sumN f n = if c < n then f c else 0
  | 0, _ => rfl
  | n + 1, h => by
    rw [sumN, sumN_one n (fun i hi hc => h i (by omega) hc)]
    by_cases h1 : c < n
    · rw [if_pos h1, if_pos (by omega), h n (by omega) (by omega)]; omega
    · by_cases h2 : c = n
      · subst h2; rw [if_neg h1, if_pos (by omega)]; omega
      · rw [if_neg h1, if_neg (by omega), h n (by omega) (by omega)]

/-- What word k of two raw bytes costs. -/
def wC (mode : Int) (xs ys : List UInt8) (k : Nat) : Nat := sumN (fun j => cst mode (xs.getD (chN mode * k + j) 0) (ys.getD (chN mode * k + j) 0)) (chN mode)
theorem word_get {mode : Int} {xs : List UInt8} {k j : Nat} (hk : k < wdN mode) (hj : j < chN mode) : (wordB mode xs (k : Int)).getD j 0 = xs.getD (chN mode * k + j) 0 := by
  unfold wordB
  rw [if_pos (by omega), Int.toNat_natCast, List.getD_eq_getElem?_getD, List.getD_eq_getElem?_getD, List.getElem?_take_of_lt hj, List.getElem?_drop]
theorem dfB_sum (xs ys : List UInt8) (n : Nat) : dfB xs ys n = sumN (fun j => pc (xs.getD j 0 ^^^ ys.getD j 0).toNat) n := by
  induction n with
  | zero => rfl
  | succ n ih => rw [dfB, sumN, ih]
theorem ulB_sum (xs ys : List UInt8) (n : Nat) : ulB xs ys n = sumN (fun j => if xs.getD j 0 = ys.getD j 0 then 0 else 1) n := by
  induction n with
  | zero => rfl
  | succ n ih => rw [ulB, sumN, ih]
theorem ul_word {mode : Int} {xs ys : List UInt8} (hx : xs.length = 72) (hy : ys.length = 72) {k : Nat} (hk : k < wdN mode) : ul mode (wordB mode xs (k : Int)) (wordB mode ys (k : Int)) = wC mode xs ys k := by
  have h1 := word_len hx hk
  have h2 := word_len hy hk
  unfold ul wC cst
  by_cases hm : mode = 1
  · simp only [if_pos hm]
    unfold dI
    rw [h1, h2, Nat.max_self, Nat.min_self, Nat.sub_self, dfB_sum]
    simp only [Nat.mul_zero, Nat.zero_add]
    exact sumN_congr _ fun i hi => by rw [word_get hk hi, word_get hk hi]
  · simp only [if_neg hm]
    rw [h1, ulB_sum]
    exact sumN_congr _ fun i hi => by rw [word_get hk hi, word_get hk hi]
theorem exP_le_iff {mode : Int} {xs ys : List UInt8} {m : Nat} : ∀ k, exP mode xs ys k ≤ m ↔ ∀ i, i < k → ul mode (wordB mode xs (i : Int)) (wordB mode ys (i : Int)) ≤ m
  | 0 => ⟨fun _ i hi => by omega, fun _ => Nat.zero_le _⟩
  | k + 1 => by
    rw [exP]
    constructor
    · intro h i hi
      by_cases e : i = k
      · subst e; omega
      · exact (exP_le_iff k).1 (by omega) i (by omega)
    · intro h
      have h1 := (exP_le_iff k).2 (fun i hi => h i (by omega))
      have h2 := h k (by omega)
      omega
theorem expo_le_iff {mode : Int} {xs ys : List UInt8} (hx : xs.length = 72) (hy : ys.length = 72) {m : Nat} : expo mode xs ys ≤ m ↔ ∀ i, i < wdN mode → wC mode xs ys i ≤ m := by
  unfold expo
  rw [exP_le_iff]
  exact ⟨fun h i hi => by rw [← ul_word hx hy hi]; exact h i hi, fun h i hi => by rw [ul_word hx hy hi]; exact h i hi⟩
theorem wC_le_expo {mode : Int} {xs ys : List UInt8} (hx : xs.length = 72) (hy : ys.length = 72) {i : Nat} (hi : i < wdN mode) : wC mode xs ys i ≤ expo mode xs ys := (expo_le_iff hx hy).1 (Nat.le_refl _) i hi
theorem expo_tri {mode : Int} {xs ys zs : List UInt8} (hx : xs.length = 72) (hy : ys.length = 72) (hz : zs.length = 72) : expo mode xs zs ≤ expo mode xs ys + expo mode ys zs := by
  refine (expo_le_iff hx hz).2 fun i hi => ?_
  have h1 := wC_le_expo hx hy hi
  have h2 := wC_le_expo hy hz hi
  have h3 : wC mode xs zs i ≤ wC mode xs ys i + wC mode ys zs i := by
    unfold wC
    rw [← sumN_add]
    exact sumN_le _ fun j _ => cst_tri _ _ _ _
  omega
theorem place_of {mode : Int} (h : mode = 1 ∨ mode = 2) {i : Nat} (hi : i < 72) : i / chN mode < wdN mode ∧ i % chN mode < chN mode ∧ chN mode * (i / chN mode) + i % chN mode = i := by
  have hn : 0 < chN mode := by rcases h with rfl | rfl <;> decide
  refine ⟨?_, Nat.mod_lt _ hn, Nat.div_add_mod _ _⟩
  rcases h with rfl | rfl
  · show i / 9 < 8; omega
  · show i / 36 < 2; omega
theorem expo_zero {mode : Int} (h : mode = 1 ∨ mode = 2) {xs ys : List UInt8} (hx : xs.length = 72) (hy : ys.length = 72) : expo mode xs ys = 0 ↔ xs = ys := by
  constructor
  · intro h0
    refine List.ext_getElem (by omega) fun i h1 h2 => ?_
    obtain ⟨p1, p2, p3⟩ := place_of h (show i < 72 by omega)
    have h3 := wC_le_expo hx hy p1
    have h4 := (sumN_zero _).1 (show wC mode xs ys (i / chN mode) = 0 by omega) _ p2
    rw [p3, cst_zero, List.getD_eq_getElem?_getD, List.getD_eq_getElem?_getD, List.getElem?_eq_getElem h1, List.getElem?_eq_getElem h2] at h4
    exact h4
  · rintro rfl
    have := (expo_le_iff (mode := mode) hx hx (m := 0)).2 fun i _ => Nat.le_of_eq ((sumN_zero _).2 fun _ _ => cst_self _ _)
    omega
theorem expo_none {mode : Int} (h1 : mode ≠ 1) (h2 : mode ≠ 2) (xs ys : List UInt8) : expo mode xs ys = 0 := by
  unfold expo
  rw [show wdN mode = 0 by unfold wdN; rw [if_neg h1, if_neg h2]]
  rfl

/-- Whose chip each byte is. -/
theorem chipB_get {mode : Int} (h : mode = 1 ∨ mode = 2) {xs : List UInt8} (hx : xs.length = 72) {c : Nat} (hc : c < chN mode) (v : UInt8) {i : Nat} (hi : i < 72) : (chipB mode xs (c : Int) v).getD i 0 = if i % chN mode = c then v else xs.getD i 0 := by
  have hof : ofL mode (c : Int) = (List.range (wdN mode)).map (fun w => chN mode * w + c) := by rw [ofL_in ⟨by omega, by omega⟩, Int.toNat_natCast]
  obtain ⟨p1, p2, p3⟩ := place_of h hi
  have key : ∀ k, k ≤ wdN mode → (chipP mode xs (c : Int) v k).getD i 0 = if i % chN mode = c ∧ i / chN mode < k then v else xs.getD i 0 := by
    intro k
    induction k with
    | zero => intro _; rw [if_neg (fun h => absurd h.2 (Nat.not_lt_zero _))]; rfl
    | succ k ih =>
      intro hk
      have hg : (ofL mode (c : Int))[k]? = some (chN mode * k + c) := by rw [hof, List.getElem?_map, List.getElem?_range (by omega)]; rfl
      rw [chipP_succ hg]
      have hl : (chipP mode xs (c : Int) v k).length = 72 := by rw [chipP_len, hx]
      have hlt := of_lt hg
      rw [List.getD_eq_getElem?_getD, List.getElem?_set]
      have e1 : (chN mode * k + c) % chN mode = c := by rw [Nat.mul_add_mod, Nat.mod_eq_of_lt hc]
      have e2 : (chN mode * k + c) / chN mode = k := by rw [Nat.mul_add_div (by omega), Nat.div_eq_of_lt hc, Nat.add_zero]
      by_cases e : chN mode * k + c = i
      · subst e
        rw [if_pos rfl, if_pos (by omega), if_pos ⟨e1, by omega⟩]; rfl
      · rw [if_neg e, ← List.getD_eq_getElem?_getD, ih (by omega)]
        have hne : ¬ (i % chN mode = c ∧ i / chN mode = k) := fun ⟨h1, h2⟩ => by rw [h1, h2] at p3; exact e p3
        congr 1
        refine propext ⟨fun h => ⟨h.1, by omega⟩, fun h => ⟨h.1, ?_⟩⟩
        have := h.2
        omega
  unfold chipB
  rw [hof, List.length_map, List.length_range, key _ (Nat.le_refl _)]
  congr 1
  exact propext ⟨fun h => h.1, fun h => ⟨h, p1⟩⟩
theorem chipB_out {mode chip : Int} (h : ¬ (0 ≤ chip ∧ chip < chN mode)) (xs : List UInt8) (v : UInt8) : chipB mode xs chip v = xs := by
  unfold chipB chipP
  rw [ofL_out h]
  rfl
theorem chipB_len {mode chip : Int} {xs : List UInt8} {v : UInt8} (h : xs.length = 72) : (chipB mode xs chip v).length = 72 := by unfold chipB; rw [chipP_len, h]
theorem chip_expo {mode : Int} (h : mode = 1 ∨ mode = 2) {xs : List UInt8} (hx : xs.length = 72) {c : Nat} (hc : c < chN mode) (v : UInt8) : expo mode xs (chipB mode xs (c : Int) v) ≤ if mode = 1 then 8 else 1 := by
  refine (expo_le_iff hx (chipB_len hx)).2 fun k hk => ?_
  obtain ⟨_, hf, _⟩ := mode_fit hk
  unfold wC
  rw [sumN_one (c := c)]
  · rw [if_pos hc]
    exact cst_le _ _ _
  · intro j hj hne
    rw [chipB_get h hx hc v (by omega), if_neg (by rw [Nat.mul_add_mod, Nat.mod_eq_of_lt hj]; exact hne), cst_self]
end Go.Proofs.Ytkeheickaogpiaa
