/- Several texts in one: RawW RawI RawD RawQ RawU RawC ArrL RawE RawV RawM. -/
import Derived.Test.YtkeheickaogpiaaOwA
import Derived.Test.YtkeheickaogpiaaBtA
import Derived.WalkKit
import Derived.Lib.Hide
import Derived.Laws.AppendOwn
import Derived.StillTailTactics
import Derived.Test.YtkeheickaogpiaaRfA
import Derived.Shelf.Abstract
import Derived.OwnWalkIn
import Derived.TacticsInMore
import Derived.LoopNIn
import Derived.LoopIn
import Derived.Laws.StructEq
import Derived.ChangeKeysEq
import Derived.Sort.BigQuietIn
import Derived.Sort.CutIn
import Derived.Lib.Agree
import Derived.Deep.WholeRow
import Derived.Deep.RegionWith
import Derived.Deep.CutRange
namespace Go.Proofs.Ytkeheickaogpiaa
open Go.RowKit

def chN (mode : Int) : Nat := if mode = 1 then 9 else if mode = 2 then 36 else 0
def wdN (mode : Int) : Nat := if mode = 1 then 8 else if mode = 2 then 2 else 0
theorem modes (mode : Int) : mode = 1 ∨ mode = 2 ∨ (mode ≠ 1 ∧ mode ≠ 2) := by omega

theorem chips_any (mode : Int) (w : World) : Calls Try.prog 52 #[.int .i64 mode] w fun e w' => e = .returned (.int .i64 (chN mode : Nat)) ∧ w = w' := by
  rcases modes mode with rfl | rfl | ⟨h1, h2⟩
  · go_enter Try.func52, Try.ntmps52
    go_wp2
    go_ret
    exact ⟨rfl, rfl⟩
  · go_enter Try.func52, Try.ntmps52
    go_wp2
    go_ret
    exact ⟨rfl, rfl⟩
  · have q1 : (mode == 1) = false := by rw [beq_eq_false_iff_ne]; exact h1
    have q2 : (mode == 2) = false := by rw [beq_eq_false_iff_ne]; exact h2
    have HE := Lib.hid (show chN mode = 0 by unfold chN; first | rw [if_neg h1, if_neg h2] | simp [h1, h2])
    clear h1 h2
    go_enter Try.func52, Try.ntmps52
    go_wp2
    go_ret
    exact ⟨by rw [HE.out]; rfl, rfl⟩
def rightB (mode : Int) : Bool := mode == 1 || mode == 2
theorem right_any (mode : Int) (w : World) : Calls Try.prog 32 #[.int .i64 mode] w fun e w' => e = .returned (.bool (rightB mode)) ∧ w = w' := by
  rcases modes mode with rfl | rfl | ⟨h1, h2⟩
  · go_enter Try.func32, Try.ntmps32
    go_wp2
    go_ret
    exact ⟨rfl, rfl⟩
  · go_enter Try.func32, Try.ntmps32
    go_wp2
    go_ret
    exact ⟨rfl, rfl⟩
  · have q1 : (mode == 1) = false := by rw [beq_eq_false_iff_ne]; exact h1
    have q2 : (mode == 2) = false := by rw [beq_eq_false_iff_ne]; exact h2
    have HE := Lib.hid (show rightB mode = false by unfold rightB; first | rw [if_neg h1, if_neg h2] | simp [h1, h2])
    clear h1 h2
    go_enter Try.func32, Try.ntmps32
    go_wp2
    go_ret
    exact ⟨by rw [HE.out]; rfl, rfl⟩
theorem words_any (mode : Int) (w : World) : Calls Try.prog 53 #[.int .i64 mode] w fun e w' => e = .returned (.int .i64 (wdN mode : Nat)) ∧ w = w' := by
  have HR := Lib.hid (right_any mode w)
  have HC := Lib.hid (chips_any mode w)
  rcases modes mode with rfl | rfl | ⟨h1, h2⟩
  case' inr.inr =>
    have HE := Lib.hid (show wdN mode = 0 by unfold wdN; rw [if_neg h1, if_neg h2])
    have hr : rightB mode = false := by unfold rightB; simp [h1, h2]
    rw [hr] at HR
    clear h1 h2 hr HC
    go_enter Try.func53, Try.ntmps53
    go_wp2_with fail
    refine HR.out.mono ?_
    rintro e w' ⟨rfl, rfl⟩
    go_wp2
    go_ret
    exact ⟨by rw [HE.out]; rfl, rfl⟩
  · rw [show rightB 1 = true from rfl] at HR
    rw [show chN 1 = 9 from rfl, show ((9 : Nat) : Int) = 9 from rfl] at HC
    have HE := Lib.hid (show wdN 1 = 8 from rfl)
    go_enter Try.func53, Try.ntmps53
    go_wp2_with fail
    refine HR.out.mono ?_
    rintro e w' ⟨rfl, rfl⟩
    go_wp2_with fail
    refine HC.out.mono ?_
    rintro e w' ⟨rfl, rfl⟩
    go_wp2
    go_ret
    exact ⟨by rw [HE.out]; rfl, rfl⟩
  · rw [show rightB 2 = true from rfl] at HR
    rw [show chN 2 = 36 from rfl, show ((36 : Nat) : Int) = 36 from rfl] at HC
    have HE := Lib.hid (show wdN 2 = 2 from rfl)
    go_enter Try.func53, Try.ntmps53
    go_wp2_with fail
    refine HR.out.mono ?_
    rintro e w' ⟨rfl, rfl⟩
    go_wp2_with fail
    refine HC.out.mono ?_
    rintro e w' ⟨rfl, rfl⟩
    go_wp2
    go_ret
    exact ⟨by rw [HE.out]; rfl, rfl⟩
end Go.Proofs.Ytkeheickaogpiaa
namespace Go.Proofs.Ytkeheickaogpiaa
open Go.RowKit Go.Shelf
attribute [local go_sem] Oper.semAt_some

end Go.Proofs.Ytkeheickaogpiaa
namespace Go.Proofs.Ytkeheickaogpiaa
open Go.RowKit

/-- A word's bytes. -/
def wordB (mode : Int) (xs : List UInt8) (word : Int) : List UInt8 := if 0 ≤ word ∧ word < wdN mode then (xs.drop (chN mode * word.toNat)).take (chN mode) else []
theorem boxRaw (cv : Array Value) (w : World) : (Instr.box 27 (.agg cv)).run Try.prog w = .ok (.pointer (some ⟨w.heap.size, 0, none⟩)) (w.alloc (.cells cv 27)) := rfl
theorem mode_fit {mode : Int} {k : Nat} (h : k < wdN mode) : (mode = 1 ∨ mode = 2) ∧ chN mode * k + chN mode ≤ 72 ∧ 9 ≤ chN mode := by
  rcases modes mode with rfl | rfl | ⟨h1, h2⟩
  · have e1 : wdN 1 = 8 := rfl
    have e2 : chN 1 = 9 := rfl
    rw [e1] at h
    rw [e2]; omega
  · have e1 : wdN 2 = 2 := rfl
    have e2 : chN 2 = 36 := rfl
    rw [e1] at h
    rw [e2]; omega
  · have e1 : wdN mode = 0 := by unfold wdN; rw [if_neg h1, if_neg h2]
    omega

theorem rawLen : Try.prog.arrayLen 27 = 72 := by kernel_rfl
theorem rawSize (W : World) : (sizeOf (Try.prog.elem 27)).run Try.prog W = .ok 1 W := by kernel_rfl
theorem addr_addN (g m : Nat) : (⟨g, 0, none⟩ : Addr).add m = ⟨g, m, none⟩ := by unfold Addr.add; split <;> simp_all
theorem rawSlice_l (g m : Nat) (hm : m < 72) (W : World) :
    (Instr.sliceAt 27 (.pointer (some ⟨g, 0, none⟩)) (some (.int .i64 (m : Int))) none none).run Try.prog W = .ok (.slice (some ⟨g, m, none⟩) (72 - m) (72 - m)) W := by
  rw [run_sliceAt_array_l (P := Try.prog) (w := W) (t := 27) (a := ⟨g, 0, none⟩) (by kernel_rfl) (kl := .i64) (l := (m : Int)) (by omega) (by rw [rawLen]; omega), rawSize, Result.andThen_ok]
  unfold slicedAt
  rw [rawLen, Int.toNat_natCast, Nat.mul_one, addr_addN, if_neg (by omega)]
theorem wpList_copy_run {P : Program} {w w' : World} {ops : Array Oper} {rest : List Oper} {o : Oper} {a : Act} {Q : Exit → Act → World → Prop} (hgd : o.guard = none) (d s : Operand) (dT sT ty : TypeId)
    (ho : o.op = .call { callee := .builtin .copy, args := #[d, s], argTypes := #[dT, sT] }) (hty : o.type = ty) (dv sv v : Value) (hd : a.eval d = dv) (hs : a.eval s = sv)
    (hr : (Builtin.copy_ #[dT, sT] ty #[dv, sv]).run P w = .ok v w') (h : wpList P ops Q rest (a.put o.dst v) w') : wpList P ops Q (o :: rest) a w := by
  subst hty
  refine wpList_plain hgd fun K hK => ?_
  unfold Oper.wp execOp
  simp only [ho, resolve, invoke, builtin, Sem.run_bind, Sem.run_pure, Result.andThen_ok, List.map_toArray, List.map_cons, List.map_nil, hd, hs, hr]
  exact hK _ _ h

/-- A word's bytes put. -/
def putB (mode : Int) (xs : List UInt8) (word : Int) (b : List UInt8) : List UInt8 :=
  if (0 ≤ word ∧ word < wdN mode) ∧ b.length = chN mode then xs.take (chN mode * word.toNat) ++ b ++ xs.drop (chN mode * word.toNat + chN mode) else xs
theorem putB_len {mode : Int} {xs : List UInt8} {word : Int} {b : List UInt8} (h : xs.length = 72) : (putB mode xs word b).length = 72 := by
  unfold putB
  split
  · rename_i hc
    obtain ⟨⟨h0, h1⟩, h2⟩ := hc
    obtain ⟨k, rfl⟩ := Int.eq_ofNat_of_zero_le h0
    obtain ⟨_, hf, _⟩ := mode_fit (mode := mode) (k := k) (by omega)
    rw [Int.toNat_natCast, List.length_append, List.length_append, List.length_take, List.length_drop, h2]
    omega
  · exact h
theorem infoRaw : (Try.prog.info? 27).map (·.size) = some 72 := by kernel_rfl
def zero72 : List UInt8 := List.replicate 72 0
theorem zeroRaw (w : World) : (zeroValue 27).run Try.prog w = .ok (.agg (rawV zero72)) w := by kernel_rfl

set_option maxRecDepth 100000 in
set_option maxHeartbeats 1000000 in
theorem put_any (xs : List UInt8) (hl : xs.length = 72) (mode word : Int) (A : Option Addr) (n c : Nat) (ys : List UInt8) (hn : ys.length = n) (w : World) (hy : RdB w A ys) :
    Calls Try.prog 25 #[.agg (rawV xs), .int .i64 mode, .int .i64 word, .slice A n c] w fun e w' => e = .returned (.agg (rawV (putB mode xs word ys))) ∧ Below w.heap.size w w' := by
  have hb := boxRaw (rawV xs)
  have hz := zeroRaw
  have HD := Lib.hid (fun w => words_any mode w)
  have HC := Lib.hid (fun w => chips_any mode w)
  have hsz0 : (rawV xs).size = 72 := by rw [rawV_size, hl]
  have hinf : ∀ zs : List UInt8, zs.length = 72 → (Try.prog.info? 27).map (·.size) = some (rawV zs).size := fun zs hz => by rw [rawV_size, hz]; exact infoRaw
  obtain ⟨d, hd⟩ : ∃ d, wdN mode = d := ⟨_, rfl⟩
  obtain ⟨m, hm⟩ : ∃ m, chN mode = m := ⟨_, rfl⟩
  obtain ⟨g, hg⟩ : ∃ g, w.heap.size = g := ⟨_, rfl⟩
  obtain ⟨W, hW⟩ : ∃ W, (w.alloc (.cells (rawV xs) 27)).alloc (.cells (rawV zero72) 27) = W := ⟨_, rfl⟩
  have k0 : Blk W g 27 (rawV xs) := by rw [← hW, ← hg]; exact (Blk.new w _ _).alloc _
  have k1 : Blk W (g + 1) 27 (rawV zero72) := by
    rw [← hW, ← hg]; have h := Blk.new (w.alloc (.cells (rawV xs) 27)) 27 (rawV zero72)
    rw [World.size_alloc] at h; exact h
  have kb : Below g w W := by rw [← hW, ← hg]; exact ((Below.refl _ w).alloc (Nat.le_refl _) _).alloc (by simp) _
  have kr : RdB W A ys := hy.below (by rw [hg]; exact kb)
  by_cases hin : (0 ≤ word ∧ word < wdN mode) ∧ ys.length = chN mode
  · have hp : putB mode xs word ys = xs.take (chN mode * word.toNat) ++ ys ++ xs.drop (chN mode * word.toNat + chN mode) := if_pos hin
    have hpl := putB_len (mode := mode) (word := word) (b := ys) hl
    obtain ⟨⟨q0, q1⟩, q2⟩ := hin
    obtain ⟨k, rfl⟩ := Int.eq_ofNat_of_zero_le q0
    obtain ⟨_, hfit, h9⟩ := mode_fit (mode := mode) (k := k) (by omega)
    rw [Int.toNat_natCast] at hp
    rw [hd] at HD q1
    rw [hm] at HC hp hfit h9 q2
    obtain rfl : n = m := by omega
    obtain ⟨s0, hs⟩ : ∃ s0, n * k = s0 := ⟨_, rfl⟩
    have hs3 : (n : Int) * (k : Int) = (s0 : Int) := by rw [← hs]; push_cast; rfl
    rw [hs] at hp hfit
    obtain ⟨PB, hPB⟩ : ∃ PB, putB mode xs (k : Int) ys = PB := ⟨_, rfl⟩
    rw [hPB] at hp hpl ⊢
    have hsl := rawSlice_l g s0 (by omega)
    obtain ⟨b, o, hA, hlb, _⟩ := kr 0 (by omega)
    subst hA
    have hsrc : ∀ (j : Nat) (v : Value), (ys.map fun x => Value.int .u8 (x.toNat : Int))[j]? = some v → W.cell? ((⟨b, o, none⟩ : Addr).add j) = some v := fun j v hv => by
      have hj : j < ys.length := by have := (List.getElem?_eq_some_iff.1 hv).1; rwa [List.length_map] at this
      obtain ⟨b', o', hA', _, hc'⟩ := kr j hj
      cases hA'
      have hadd : (⟨b, o, none⟩ : Addr).add j = ⟨b, o + j, none⟩ := by unfold Addr.add; split <;> simp_all
      rw [hadd, hc', ← hv, List.getElem?_map, List.getD_eq_getElem?_getD, List.getElem?_eq_getElem hj]
      rfl
    have hcp := run_copy_row Try.prog W 56 56 3 5 g s0 (72 - s0) (72 - s0) ⟨b, o, none⟩ n c (rawV xs) 27 (ys.map fun x => Value.int .u8 (x.toNat : Int)) Try.underlying56 (by kernel_rfl) k0
      (by rw [List.length_map, hn]; exact (Nat.min_eq_left (by omega)).symm) hsrc (by rw [List.length_map, hn, hsz0]; omega) (fun v hv => by obtain ⟨_, _, rfl⟩ := List.mem_map.1 hv; rfl)
    have hnew : ((rawV xs).toList.take s0 ++ (ys.map fun x => Value.int .u8 (x.toNat : Int)) ++ (rawV xs).toList.drop (s0 + (ys.map fun x => Value.int .u8 (x.toNat : Int)).length)).toArray = rawV PB := by
      rw [hp, List.length_map, hn]
      unfold rawV
      rw [List.map_append, List.map_append, List.map_take, List.map_drop]
    rw [hnew] at hcp
    have hx := And.intro ((k0.setRow (rawV PB) : Blk (W.setRow g (rawV PB)) g 27 (rawV PB))) (And.intro (k1.farRow (k := g) (by omega) (rawV PB)) (And.intro (hinf PB hpl) (And.intro (show (rawV zero72).size = (rawV PB).size by rw [rawV_size, rawV_size, hpl]; rfl) (And.intro (rawV_one PB) (below_setRow kb (Nat.le_refl _) (rawV PB))))))
    obtain ⟨cv2, hcv⟩ : ∃ cv, rawV PB = cv := ⟨_, rfl⟩
    obtain ⟨cv, hcv0⟩ : ∃ cv, rawV xs = cv := ⟨_, rfl⟩
    rw [hcv] at hcp hx ⊢
    rw [hcv0] at hb hW ⊢
    have HX := Lib.hid hx
    have HG := Lib.hid hg
    have HCP := Lib.hid hcp
    have i1 : (k : Int) < (d : Int) := q1
    clear hp hpl hcv hcv0 hsz0 hinf hx kr hy k0 k1 kb hd hm hl hcp hnew hsrc hPB hs hn q0 q1 q2
    go_enter Try.func25, Try.ntmps25
    go_wp2_with fail
    clear hb hz hW hg
    refine (HC.out _).mono ?_
    rintro e w' ⟨rfl, rfl⟩
    go_wp2_with fail
    refine (HD.out _).mono ?_
    rintro e w' ⟨rfl, rfl⟩
    go_wp2_with (first
      | (refine wpList_copy_run rfl (.tmp 29) (.tmp 30) 56 56 3 rfl rfl _ _ _ rfl rfl HCP.out ?_)
      | (refine wpList_load_row rfl 27 (.tmp 4) rfl g rfl 27 cv2 (0, 0) _ HX.out.1 Try.underlying27 rfl HX.out.2.2.1 ?_)
      | (refine wpList_store_row rfl 27 (.tmp 8) (.tmp 32) rfl (g + 1) cv2 rfl rfl 27 (rawV zero72) HX.out.2.1 HX.out.2.2.1 HX.out.2.2.2.1 HX.out.2.2.2.2.1 ?_))
    refine bodyPost_ret (v := .agg cv2) (results_cell_row rfl _ _ (g + 1) 27 cv2 (0, 0) _ rfl (HX.out.2.1.setRow _) Try.underlying27 rfl HX.out.2.2.1) rfl ⟨rfl, ?_⟩
    rw [HG.out]
    exact below_setRow HX.out.2.2.2.2.2 (by omega) _
  · have hp : putB mode xs word ys = xs := if_neg hin
    rw [hp]
    have hx := And.intro k0 (And.intro k1 (And.intro (hinf xs hl) (And.intro (show (rawV zero72).size = (rawV xs).size by rw [hsz0, rawV_size]; rfl) (And.intro (rawV_one xs) kb))))
    obtain ⟨cv2, hcv⟩ : ∃ cv, rawV xs = cv := ⟨_, rfl⟩
    rw [hcv] at hb hx hW ⊢
    rw [hd, hm] at hin
    rw [hd] at HD
    rw [hm] at HC
    have HX := Lib.hid hx
    have HG := Lib.hid hg
    have HN := Lib.hid hn
    clear hp hcv hsz0 hinf hx kr hy k0 k1 kb hd hm hl
    by_cases h0 : 0 ≤ word
    · by_cases h1 : word < d
      · have h2 : ((n : Int) == (m : Int)) = false := by rw [beq_eq_false_iff_ne]; intro h; exact hin ⟨⟨h0, h1⟩, by have := HN.out; omega⟩
        clear hin hn
        go_enter Try.func25, Try.ntmps25
        go_wp2_with fail
        clear hb hz hW hg
        refine (HC.out _).mono ?_
        rintro e w' ⟨rfl, rfl⟩
        go_wp2_with fail
        refine (HD.out _).mono ?_
        rintro e w' ⟨rfl, rfl⟩
        go_wp2_with (first
          | fail
          | (refine wpList_load_row rfl 27 (.tmp 4) rfl g rfl 27 cv2 (0, 0) _ HX.out.1 Try.underlying27 rfl HX.out.2.2.1 ?_)
          | (refine wpList_store_row rfl 27 (.tmp 8) (.tmp 32) rfl (g + 1) cv2 rfl rfl 27 (rawV zero72) HX.out.2.1 HX.out.2.2.1 HX.out.2.2.2.1 HX.out.2.2.2.2.1 ?_))
        refine bodyPost_ret (v := .agg cv2) (results_cell_row rfl _ _ (g + 1) 27 cv2 (0, 0) _ rfl (HX.out.2.1.setRow _) Try.underlying27 rfl HX.out.2.2.1) rfl ⟨rfl, ?_⟩
        rw [HG.out]
        exact below_setRow HX.out.2.2.2.2.2 (by omega) _
      · have h2 : (d : Int) ≤ word := by omega
        clear hin hn
        go_enter Try.func25, Try.ntmps25
        go_wp2_with fail
        clear hb hz hW hg
        refine (HC.out _).mono ?_
        rintro e w' ⟨rfl, rfl⟩
        go_wp2_with fail
        refine (HD.out _).mono ?_
        rintro e w' ⟨rfl, rfl⟩
        go_wp2_with (first
          | fail
          | (refine wpList_load_row rfl 27 (.tmp 4) rfl g rfl 27 cv2 (0, 0) _ HX.out.1 Try.underlying27 rfl HX.out.2.2.1 ?_)
          | (refine wpList_store_row rfl 27 (.tmp 8) (.tmp 32) rfl (g + 1) cv2 rfl rfl 27 (rawV zero72) HX.out.2.1 HX.out.2.2.1 HX.out.2.2.2.1 HX.out.2.2.2.2.1 ?_))
        refine bodyPost_ret (v := .agg cv2) (results_cell_row rfl _ _ (g + 1) 27 cv2 (0, 0) _ rfl (HX.out.2.1.setRow _) Try.underlying27 rfl HX.out.2.2.1) rfl ⟨rfl, ?_⟩
        rw [HG.out]
        exact below_setRow HX.out.2.2.2.2.2 (by omega) _
    · clear hin hn
      go_enter Try.func25, Try.ntmps25
      go_wp2_with fail
      clear hb hz hW hg
      refine (HC.out _).mono ?_
      rintro e w' ⟨rfl, rfl⟩
      go_wp2_with (first
        | fail
        | (refine wpList_load_row rfl 27 (.tmp 4) rfl g rfl 27 cv2 (0, 0) _ HX.out.1 Try.underlying27 rfl HX.out.2.2.1 ?_)
        | (refine wpList_store_row rfl 27 (.tmp 8) (.tmp 32) rfl (g + 1) cv2 rfl rfl 27 (rawV zero72) HX.out.2.1 HX.out.2.2.1 HX.out.2.2.2.1 HX.out.2.2.2.2.1 ?_))
      refine bodyPost_ret (v := .agg cv2) (results_cell_row rfl _ _ (g + 1) 27 cv2 (0, 0) _ rfl (HX.out.2.1.setRow _) Try.underlying27 rfl HX.out.2.2.1) rfl ⟨rfl, ?_⟩
      rw [HG.out]
      exact below_setRow HX.out.2.2.2.2.2 (by omega) _
end Go.Proofs.Ytkeheickaogpiaa
namespace Go.Proofs.Ytkeheickaogpiaa
open Go.RowKit

end Go.Proofs.Ytkeheickaogpiaa
namespace Go.Proofs.Ytkeheickaogpiaa
open Go.RowKit

/-- The unlike bytes of the first k pairs. -/
def ulB (xs ys : List UInt8) : Nat → Nat
  | 0 => 0
  | k + 1 => ulB xs ys k + if xs.getD k 0 = ys.getD k 0 then 0 else 1
def ul (mode : Int) (xs ys : List UInt8) : Nat := if mode = 1 then dI xs ys else ulB xs ys xs.length

end Go.Proofs.Ytkeheickaogpiaa
namespace Go.Proofs.Ytkeheickaogpiaa
open Go.RowKit Go.Shelf
attribute [local go_sem] Oper.semAt_some

end Go.Proofs.Ytkeheickaogpiaa
namespace Go.Proofs.Ytkeheickaogpiaa
open Go.RowKit

def rowAt (W : World) (a : Addr) : Option (Array Value) := match a with
  | ⟨g, 0, none⟩ => (match W.heap[g]? with
    | some (.cells cs _ (0, 0)) => if cs.size = 72 then some cs else none
    | _ => none)
  | _ => none
def slowVar (t : TypeId) (a : Addr) : Sem Value := loadVar t a
theorem load_row_down (W : World) (a : Addr) : (loadVar 27 a).run Try.prog W = match rowAt W a with
    | some cs => .ok (.agg cs) W
    | none => (slowVar 27 a).run Try.prog W := by
  cases h : rowAt W a with
  | none => rfl
  | some cs =>
    unfold rowAt at h
    split at h
    · split at h
      · rename_i g _ cs' t hc
        split at h
        · rename_i hs
          cases h
          have hi : (Try.prog.info? 27).map (·.size) = some cs.size := by rw [hs]; exact infoRaw
          exact run_loadVar_row (P := Try.prog) W g t 27 cs (0, 0) _ hc Try.underlying27 rfl hi
        · cases h
      · cases h
    · cases h
theorem Blk.row {W : World} {g : Nat} {t : TypeId} {cs : Array Value} (h : Blk W g t cs) (hs : cs.size = 72) : rowAt W ⟨g, 0, none⟩ = some cs := by
  unfold rowAt
  simp only [show W.heap[g]? = some (.cells cs t (0, 0)) from h]
  exact if_pos hs
theorem load_var_step {P : Program} (t : TypeId) (W : World) (a : Addr) : (loadVar t a).run P W = ((isAgg t).run P W).andThen fun b w' => if b then ((sizeOf t).run P w').andThen (fun n w2 => ((loadCells a n).run P w2).andThen fun cs w3 => .ok (.agg cs) w3) else (load a).run P w' := by
  unfold loadVar
  rw [Sem.run_bind]
  congr 1
  funext b w'
  cases b <;> simp [Sem.run_bind]
end Go.Proofs.Ytkeheickaogpiaa
namespace Go.Proofs.Ytkeheickaogpiaa
open Go.RowKit
attribute [-go_sem] loadVar
attribute [local go_sem high] load_row_down
attribute [local go_sem low] load_var_step

/-- How much two are exposed to one another: over the first k words, and over all. -/
def exP (mode : Int) (xs ys : List UInt8) : Nat → Nat
  | 0 => 0
  | k + 1 => max (exP mode xs ys k) (ul mode (wordB mode xs (k : Int)) (wordB mode ys (k : Int)))
def expo (mode : Int) (xs ys : List UInt8) : Nat := exP mode xs ys (wdN mode)
theorem word_len {mode : Int} {xs : List UInt8} {k : Nat} (hl : xs.length = 72) (h : k < wdN mode) : (wordB mode xs (k : Int)).length = chN mode := by
  obtain ⟨_, hf, _⟩ := mode_fit h
  unfold wordB
  rw [if_pos (by omega), Int.toNat_natCast, List.length_take, List.length_drop]
  omega
def At2 (w : World) (b0 : Nat) (cv dv : Array Value) (W : World) : Prop := Blk W b0 27 cv ∧ Blk W (b0 + 1) 27 dv ∧ Below b0 w W ∧ b0 + 2 ≤ W.heap.size
theorem At2.below {w : World} {b0 : Nat} {cv dv : Array Value} {W W' : World} (h : At2 w b0 cv dv W) (hb : Below W.heap.size W W') : At2 w b0 cv dv W' := by
  obtain ⟨h0, h1, h2, h3⟩ := h
  exact ⟨h0.below hb (by omega), h1.below hb (by omega), h2.trans (hb.mono (by omega)), Nat.le_trans h3 hb.size⟩

end Go.Proofs.Ytkeheickaogpiaa
namespace Go.Proofs.Ytkeheickaogpiaa
open Go.RowKit

theorem alRaw : ∀ w : World, (Instr.alloc 27 true (.tuple #[])).run Try.prog w = .ok (.pointer (some ⟨w.heap.size, 0, none⟩)) (w.alloc (.cells (rawV zero72) 27)) := fun _ => by kernel_rfl
end Go.Proofs.Ytkeheickaogpiaa
namespace Go.Proofs.Ytkeheickaogpiaa
open Go.RowKit

/-- What one pair of bytes costs. -/
def cst (mode : Int) (a b : UInt8) : Nat := if mode = 1 then pc (a ^^^ b).toNat else if a = b then 0 else 1
theorem pc_eq0 {n : Nat} (h : n < 2 ^ 64) : pc n = 0 ↔ n = 0 := by
  constructor
  · intro h0
    rcases Nat.eq_zero_or_pos n with h1 | h1
    · exact h1
    · have := pc_and_pred n h1 h
      omega
  · rintro rfl; exact pc_zero
theorem u8_xor_self (a : UInt8) : a ^^^ a = 0 := by
  apply UInt8.toNat_inj.1
  rw [UInt8.toNat_xor, Nat.xor_self]; rfl
theorem u8_xor_zero {a b : UInt8} (h : (a ^^^ b).toNat = 0) : a = b := by
  apply UInt8.toNat_inj.1
  rw [UInt8.toNat_xor] at h
  have h2 := congrArg (· ^^^ b.toNat) h
  simpa [Nat.xor_assoc] using h2
theorem cst_self (mode : Int) (a : UInt8) : cst mode a a = 0 := by
  unfold cst
  split
  · rw [u8_xor_self]; exact pc_zero
  · rw [if_pos rfl]
theorem cst_zero {mode : Int} {a b : UInt8} : cst mode a b = 0 ↔ a = b := by
  constructor
  · intro h
    unfold cst at h
    split at h
    · have := (a ^^^ b).toNat_lt
      exact u8_xor_zero ((pc_eq0 (by omega)).1 h)
    · split at h
      · assumption
      · omega
  · rintro rfl; exact cst_self _ _
/-- A sum of the first n. -/
def sumN (f : Nat → Nat) : Nat → Nat
  | 0 => 0
  | k + 1 => sumN f k + f k
theorem sumN_congr {f g : Nat → Nat} : ∀ n, (∀ i, i < n → f i = g i) → sumN f n = sumN g n
  | 0, _ => rfl
  | n + 1, h => by rw [sumN, sumN, sumN_congr n (fun i hi => h i (by omega)), h n (by omega)]
theorem sumN_zero {f : Nat → Nat} : ∀ n, sumN f n = 0 ↔ ∀ i, i < n → f i = 0
  | 0 => ⟨fun _ i hi => by omega, fun _ => rfl⟩
  | n + 1 => by
    rw [sumN]
    constructor
    · intro h i hi
      by_cases e : i = n
      · subst e; omega
      · exact (sumN_zero n).1 (by omega) i (by omega)
    · intro h
      rw [(sumN_zero n).2 (fun i hi => h i (by omega)), h n (by omega)]
/-- What word k of two raw bytes costs. -/
def wC (mode : Int) (xs ys : List UInt8) (k : Nat) : Nat := sumN (fun j => cst mode (xs.getD (chN mode * k + j) 0) (ys.getD (chN mode * k + j) 0)) (chN mode)
theorem word_get {mode : Int} {xs : List UInt8} {k j : Nat} (hk : k < wdN mode) (hj : j < chN mode) : (wordB mode xs (k : Int)).getD j 0 = xs.getD (chN mode * k + j) 0 := by
  unfold wordB
  rw [if_pos (by omega), Int.toNat_natCast, List.getD_eq_getElem?_getD, List.getD_eq_getElem?_getD, List.getElem?_take_of_lt hj, List.getElem?_drop]
theorem dfB_sum (xs ys : List UInt8) (n : Nat) : dfB xs ys n = sumN (fun j => pc (xs.getD j 0 ^^^ ys.getD j 0).toNat) n := by
  induction n with
  | zero => rfl
  | succ n ih => rw [dfB, sumN, ih]
theorem ulB_sum (xs ys : List UInt8) (n : Nat) : ulB xs ys n = sumN (fun j => if xs.getD j 0 = ys.getD j 0 then 0 else 1) n := by
  induction n with
  | zero => rfl
  | succ n ih => rw [ulB, sumN, ih]
theorem ul_word {mode : Int} {xs ys : List UInt8} (hx : xs.length = 72) (hy : ys.length = 72) {k : Nat} (hk : k < wdN mode) : ul mode (wordB mode xs (k : Int)) (wordB mode ys (k : Int)) = wC mode xs ys k := by
  have h1 := word_len hx hk
  have h2 := word_len hy hk
  unfold ul wC cst
  by_cases hm : mode = 1
  · simp only [if_pos hm]
    unfold dI
    rw [h1, h2, Nat.max_self, Nat.min_self, Nat.sub_self, dfB_sum]
    simp only [Nat.mul_zero, Nat.zero_add]
    exact sumN_congr _ fun i hi => by rw [word_get hk hi, word_get hk hi]
  · simp only [if_neg hm]
    rw [h1, ulB_sum]
    exact sumN_congr _ fun i hi => by rw [word_get hk hi, word_get hk hi]
theorem exP_le_iff {mode : Int} {xs ys : List UInt8} {m : Nat} : ∀ k, exP mode xs ys k ≤ m ↔ ∀ i, i < k → ul mode (wordB mode xs (i : Int)) (wordB mode ys (i : Int)) ≤ m
  | 0 => ⟨fun _ i hi => by omega, fun _ => Nat.zero_le _⟩
  | k + 1 => by
    rw [exP]
    constructor
    · intro h i hi
      by_cases e : i = k
      · subst e; omega
      · exact (exP_le_iff k).1 (by omega) i (by omega)
    · intro h
      have h1 := (exP_le_iff k).2 (fun i hi => h i (by omega))
      have h2 := h k (by omega)
      omega
theorem expo_le_iff {mode : Int} {xs ys : List UInt8} (hx : xs.length = 72) (hy : ys.length = 72) {m : Nat} : expo mode xs ys ≤ m ↔ ∀ i, i < wdN mode → wC mode xs ys i ≤ m := by
  unfold expo
  rw [exP_le_iff]
  exact ⟨fun h i hi => by rw [← ul_word hx hy hi]; exact h i hi, fun h i hi => by rw [ul_word hx hy hi]; exact h i hi⟩
theorem wC_le_expo {mode : Int} {xs ys : List UInt8} (hx : xs.length = 72) (hy : ys.length = 72) {i : Nat} (hi : i < wdN mode) : wC mode xs ys i ≤ expo mode xs ys := (expo_le_iff hx hy).1 (Nat.le_refl _) i hi
theorem place_of {mode : Int} (h : mode = 1 ∨ mode = 2) {i : Nat} (hi : i < 72) : i / chN mode < wdN mode ∧ i % chN mode < chN mode ∧ chN mode * (i / chN mode) + i % chN mode = i := by
  have hn : 0 < chN mode := by rcases h with rfl | rfl <;> decide
  refine ⟨?_, Nat.mod_lt _ hn, Nat.div_add_mod _ _⟩
  rcases h with rfl | rfl
  · show i / 9 < 8; omega
  · show i / 36 < 2; omega
theorem expo_zero {mode : Int} (h : mode = 1 ∨ mode = 2) {xs ys : List UInt8} (hx : xs.length = 72) (hy : ys.length = 72) : expo mode xs ys = 0 ↔ xs = ys := by
  constructor
  · intro h0
    refine List.ext_getElem (by omega) fun i h1 h2 => ?_
    obtain ⟨p1, p2, p3⟩ := place_of h (show i < 72 by omega)
    have h3 := wC_le_expo hx hy p1
    have h4 := (sumN_zero _).1 (show wC mode xs ys (i / chN mode) = 0 by omega) _ p2
    rw [p3, cst_zero, List.getD_eq_getElem?_getD, List.getD_eq_getElem?_getD, List.getElem?_eq_getElem h1, List.getElem?_eq_getElem h2] at h4
    exact h4
  · rintro rfl
    have := (expo_le_iff (mode := mode) hx hx (m := 0)).2 fun i _ => Nat.le_of_eq ((sumN_zero _).2 fun _ _ => cst_self _ _)
    omega
end Go.Proofs.Ytkeheickaogpiaa
