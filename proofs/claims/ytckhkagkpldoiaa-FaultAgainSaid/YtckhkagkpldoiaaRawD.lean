/- Raw bytes: a word told, a word put: walks. -/
import Derived.Test.YtckhkagkpldoiaaRawW
namespace Go.Proofs.Ytckhkagkpldoiaa
open Go.RowKit

/-- A word's bytes. -/
def wordB (mode : Int) (xs : List UInt8) (word : Int) : List UInt8 := if 0 ≤ word ∧ word < wdN mode then (xs.drop (chN mode * word.toNat)).take (chN mode) else []
theorem boxRaw (cv : Array Value) (w : World) : (Instr.box 41 (.agg cv)).run Try.prog w = .ok (.pointer (some ⟨w.heap.size, 0, none⟩)) (w.alloc (.cells cv 41)) := rfl
theorem infoB : (Try.prog.info? 5).map (fun i => (i.zero, i.size, i.bytes)) = some (some (.int .u8 0), 1, 1) := by kernel_rfl
theorem mode_fit {mode : Int} {k : Nat} (h : k < wdN mode) : (mode = 1 ∨ mode = 2) ∧ chN mode * k + chN mode ≤ 72 ∧ 9 ≤ chN mode := by
  rcases modes mode with rfl | rfl | ⟨h1, h2⟩
  · have e1 : wdN 1 = 8 := rfl
    have e2 : chN 1 = 9 := rfl
    rw [e1] at h
    rw [e2]; omega
  · have e1 : wdN 2 = 2 := rfl
    have e2 : chN 2 = 36 := rfl
    rw [e1] at h
    rw [e2]; omega
  · have e1 : wdN mode = 0 := by unfold wdN; rw [if_neg h1, if_neg h2]
    omega

theorem rawLen : Try.prog.arrayLen 41 = 72 := by kernel_rfl
theorem rawSize (W : World) : (sizeOf (Try.prog.elem 41)).run Try.prog W = .ok 1 W := by kernel_rfl
theorem addr_addN (g m : Nat) : (⟨g, 0, none⟩ : Addr).add m = ⟨g, m, none⟩ := by unfold Addr.add; split <;> simp_all
theorem rawSlice_lh (g m n : Nat) (hm : m < 72) (h : m + n ≤ 72) (W : World) :
    (Instr.sliceAt 41 (.pointer (some ⟨g, 0, none⟩)) (some (.int .i64 (m : Int))) (some (.int .i64 ((m : Int) + (n : Int)))) none).run Try.prog W = .ok (.slice (some ⟨g, m, none⟩) n (72 - m)) W := by
  rw [run_sliceAt_array_lh (P := Try.prog) (w := W) (t := 41) (a := ⟨g, 0, none⟩) (by kernel_rfl) (kl := .i64) (kh := .i64) (l := (m : Int)) (h := (m : Int) + (n : Int)) (by omega) (by omega) (by rw [rawLen]; omega), rawSize, Result.andThen_ok]
  unfold slicedAt
  rw [rawLen, show ((m : Int) + (n : Int)).toNat = m + n by omega, Int.toNat_natCast, Nat.mul_one, addr_addN, if_neg (by omega), show m + n - m = n by omega]
theorem rawSlice_l (g m : Nat) (hm : m < 72) (W : World) :
    (Instr.sliceAt 41 (.pointer (some ⟨g, 0, none⟩)) (some (.int .i64 (m : Int))) none none).run Try.prog W = .ok (.slice (some ⟨g, m, none⟩) (72 - m) (72 - m)) W := by
  rw [run_sliceAt_array_l (P := Try.prog) (w := W) (t := 41) (a := ⟨g, 0, none⟩) (by kernel_rfl) (kl := .i64) (l := (m : Int)) (by omega) (by rw [rawLen]; omega), rawSize, Result.andThen_ok]
  unfold slicedAt
  rw [rawLen, Int.toNat_natCast, Nat.mul_one, addr_addN, if_neg (by omega)]
theorem rawSlice_all (g : Nat) (W : World) :
    (Instr.sliceAt 41 (.pointer (some ⟨g, 0, none⟩)) none none none).run Try.prog W = .ok (.slice (some ⟨g, 0, none⟩) 72 72) W := by
  rw [run_sliceAt_array_all (P := Try.prog) (w := W) (t := 41) (a := ⟨g, 0, none⟩) (by kernel_rfl), rawSize, Result.andThen_ok]
  unfold slicedAt
  rw [rawLen, Nat.zero_mul, addr_addN, if_neg (by omega)]

set_option maxRecDepth 100000 in
set_option maxHeartbeats 1000000 in
theorem word_any (xs : List UInt8) (hl : xs.length = 72) (mode word : Int) (w : World) :
    Calls Try.prog 102 #[.agg (rawV xs), .int .i64 mode, .int .i64 word] w fun e w' => ∃ A c, e = .returned (.slice A (wordB mode xs word).length c) ∧ RdB w' A (wordB mode xs word) ∧ Below w.heap.size w w' := by
  have hb := boxRaw (rawV xs)
  have CG := fun i (hi : i < 72) => rawV_get xs (i := i) (by rw [hl]; exact hi)
  have HD := Lib.hid (fun w => words_any mode w)
  have HC := Lib.hid (fun w => chips_any mode w)
  by_cases hin : 0 ≤ word ∧ word < wdN mode
  · obtain ⟨k, rfl⟩ := Int.eq_ofNat_of_zero_le hin.1
    have hwb : wordB mode xs (k : Int) = (xs.drop (chN mode * k)).take (chN mode) := if_pos hin
    obtain ⟨_, hfit, h9⟩ := mode_fit (mode := mode) (k := k) (by omega)
    obtain ⟨d, hd⟩ : ∃ d, wdN mode = d := ⟨_, rfl⟩
    obtain ⟨n, hn⟩ : ∃ n, chN mode = n := ⟨_, rfl⟩
    rw [hd] at HD hin
    rw [hn] at HC hwb hfit h9
    have hlen : (wordB mode xs (k : Int)).length = n := by rw [hwb, List.length_take, List.length_drop]; omega
    have hget : ∀ j, j < n → (wordB mode xs (k : Int)).getD j 0 = xs.getD (n * k + j) 0 := fun j hj => by
      rw [hwb, List.getD_eq_getElem?_getD, List.getD_eq_getElem?_getD, List.getElem?_take_of_lt hj, List.getElem?_drop]
    obtain ⟨B, hB⟩ : ∃ B, wordB mode xs (k : Int) = B := ⟨_, rfl⟩
    rw [hB] at hlen hget ⊢
    obtain ⟨m, hm⟩ : ∃ m, n * k = m := ⟨_, rfl⟩
    have hm3 : (n : Int) * (k : Int) = (m : Int) := by rw [← hm]; push_cast; rfl
    rw [hm] at hfit hget
    obtain ⟨cv, hcv⟩ : ∃ cv, rawV xs = cv := ⟨_, rfl⟩
    rw [hcv] at hb CG ⊢
    obtain ⟨i0, hi, hz0, hz1, hz2⟩ := info_parts infoB
    have HI0 := Lib.hid (And.intro hi (And.intro hz0 (And.intro hz1 hz2)))
    have i1 : ¬ ((d : Int) ≤ (k : Int)) := by omega
    have HLEN := Lib.hid hlen
    have HGET := Lib.hid hget
    have HCG := Lib.hid CG
    clear hin hwb hd hn hlen hget hB hm hcv CG hi hz0 hz1 hz2 hl
    go_enter Try.func102, Try.ntmps102
    go_wp2_with fail
    refine (HD.out _).mono ?_
    rintro e w' ⟨rfl, rfl⟩
    go_wp2_with fail
    refine (HC.out _).mono ?_
    rintro e w' ⟨rfl, rfl⟩
    clear hb
    obtain ⟨g, hg⟩ : ∃ g, w.heap.size = g := ⟨_, rfl⟩
    rw [hg]
    have hsl := rawSlice_lh g m n (by omega) hfit
    have HG := Lib.hid hg
    obtain ⟨W, hW⟩ : ∃ W, w.alloc (.cells cv 41) = W := ⟨_, rfl⟩
    rw [hW]
    have hbk : Blk W g 41 cv := by rw [← hW, ← hg]; exact Blk.new w _ _
    have hzw : W.heap.size = g + 1 := by rw [← hW, ← hg]; simp
    have HW := Lib.hid hW
    have HBK := Lib.hid hbk
    have HZW := Lib.hid hzw
    clear hg hW hbk hzw
    have hown : (W.alloc (.cells #[] 5)).ownsRow (g + 1) 5 1 (.slice (some ⟨W.heap.size, 0, none⟩) 0 0) 0 [] :=
      ⟨rfl, .inr ⟨W.heap.size, 0, #[], rfl, by rw [HZW.out]; exact Nat.le_refl _, Blk.new W _ _, Nat.le_refl _, Nat.zero_le _, rfl, rfl⟩⟩
    have HOWN := Lib.hid hown
    clear hown
    go_wp2_with (at_builtin; go_must (refine wpList_append_own _ rfl (.tmp 18) (.tmp 27) 151 rfl (g + 1) 5 i0 (.int .u8 0) 1 1 Try.underlying151 HI0.out.1 HI0.out.2.1 HI0.out.2.2.1 HI0.out.2.2.2 rfl (by decide) _ 0 [] rfl HOWN.out ⟨g, m, none⟩ n (72 - m) (B.map fun x => Value.int .u8 (x.toNat : Int)) rfl ?c1 ?c2 ?c3 ?c4 ?c5 ?c6 ?_))
    case c1 => rw [List.length_map, HLEN.out, Nat.mul_one]
    case c2 =>
      intro j u hu
      have hj : j < n := by have := (List.getElem?_eq_some_iff.1 hu).1; rw [List.length_map, HLEN.out] at this; exact this
      have hadd : (⟨g, m, none⟩ : Addr).add j = ⟨g, m + j, none⟩ := by unfold Addr.add; split <;> simp_all
      have h1 : (W.alloc (.cells #[] 5)).cell? ⟨g, m + j, none⟩ = cv[m + j]? := (HBK.out.alloc _).cell (m + j)
      rw [hadd]
      refine h1.trans ?_
      rw [HCG.out (m + j) (by omega), ← HGET.out j hj, ← hu, List.getElem?_map, List.getD_eq_getElem?_getD, List.getElem?_eq_getElem (by rw [HLEN.out]; exact hj)]
      rfl
    case c3 =>
      intro u hu
      obtain ⟨_, _, rfl⟩ := List.mem_map.1 hu
      rfl
    case c4 => unfold maxLen; omega
    case c5 => omega
    case c6 => simp [World.size_alloc, HZW.out]
    intro v' w1 hown1 hgrow _
    rcases hown1 with ⟨_, ⟨_, h0⟩ | ⟨g', cap, cur, rfl, hg', hbk', hcap, _, hsz', htk⟩⟩
    · omega
    · have hsz : (W.alloc (.cells #[] 5)).heap.size = g + 2 := by simp [HZW.out]
      have hb1 : Below (g + 1) (W.alloc (.cells #[] 5)) w1 := ⟨hgrow.os, hgrow.tape, hgrow.output, by have := hgrow.size; rw [hsz] at this; omega, fun b hb => hgrow.block b (by rw [hsz]; omega) (by
        show some b ≠ some W.heap.size
        rw [HZW.out]; intro e; cases e; omega)⟩
      have hb2 : Below g w w1 := by
        have h1 : Below g w W := by rw [← HW.out]; exact (Below.refl _ w).alloc (by rw [HG.out]; exact Nat.le_refl _) _
        exact (h1.alloc (by rw [HZW.out]; omega) _).trans (hb1.mono (by omega))
      have hrd : RdB w1 (some ⟨g', 0, none⟩) B := RdB.ofBlk hbk' fun k' hk' => by
        rw [HLEN.out] at hk'
        have h3 := congrArg (fun l => l[k']?) htk
        simp only [Nat.mul_one] at h3
        rw [List.getElem?_take_of_lt hk', Array.getElem?_toList] at h3
        rw [h3, List.getElem?_map, List.getD_eq_getElem?_getD, List.getElem?_eq_getElem (by rw [HLEN.out]; exact hk')]
        rfl
      have HB2 := Lib.hid hb2
      have HRD := Lib.hid hrd
      clear hgrow hbk' htk hsz' hb1 hb2 hrd hsz hsl
      go_wp2
      go_ret
      refine ⟨_, cap, ?_, HRD.out, by rw [HG.out]; exact HB2.out⟩
      rw [HLEN.out]
      simp
  · have hwb : wordB mode xs word = [] := if_neg hin
    rw [hwb]
    obtain ⟨cv, hcv⟩ : ∃ cv, rawV xs = cv := ⟨_, rfl⟩
    rw [hcv] at hb ⊢
    obtain ⟨d, hd⟩ : ∃ d, wdN mode = d := ⟨_, rfl⟩
    rw [hd] at HD hin
    clear hwb CG hcv hd HC
    by_cases h0 : 0 ≤ word
    · have i1 : (d : Int) ≤ word := by omega
      clear hin
      go_enter Try.func102, Try.ntmps102
      go_wp2_with fail
      refine (HD.out _).mono ?_
      rintro e w' ⟨rfl, rfl⟩
      go_wp2
      go_ret
      exact ⟨none, 0, rfl, RdB.nil, (Below.refl _ w).alloc (Nat.le_refl _) _⟩
    · clear hin
      go_enter Try.func102, Try.ntmps102
      go_wp2
      go_ret
      exact ⟨none, ⟨0, rfl⟩, RdB.nil, (Below.refl _ w).alloc (Nat.le_refl _) _⟩

theorem wpList_copy_run {P : Program} {w w' : World} {ops : Array Oper} {rest : List Oper} {o : Oper} {a : Act} {Q : Exit → Act → World → Prop} (hgd : o.guard = none) (d s : Operand) (dT sT ty : TypeId)
    (ho : o.op = .call { callee := .builtin .copy, args := #[d, s], argTypes := #[dT, sT] }) (hty : o.type = ty) (dv sv v : Value) (hd : a.eval d = dv) (hs : a.eval s = sv)
    (hr : (Builtin.copy_ #[dT, sT] ty #[dv, sv]).run P w = .ok v w') (h : wpList P ops Q rest (a.put o.dst v) w') : wpList P ops Q (o :: rest) a w := by
  subst hty
  refine wpList_plain hgd fun K hK => ?_
  unfold Oper.wp execOp
  simp only [ho, resolve, invoke, builtin, Sem.run_bind, Sem.run_pure, Result.andThen_ok, List.map_toArray, List.map_cons, List.map_nil, hd, hs, hr]
  exact hK _ _ h

/-- A word's bytes put. -/
def putB (mode : Int) (xs : List UInt8) (word : Int) (b : List UInt8) : List UInt8 :=
  if (0 ≤ word ∧ word < wdN mode) ∧ b.length = chN mode then xs.take (chN mode * word.toNat) ++ b ++ xs.drop (chN mode * word.toNat + chN mode) else xs
theorem putB_len {mode : Int} {xs : List UInt8} {word : Int} {b : List UInt8} (h : xs.length = 72) : (putB mode xs word b).length = 72 := by
  unfold putB
  split
  · rename_i hc
    obtain ⟨⟨h0, h1⟩, h2⟩ := hc
    obtain ⟨k, rfl⟩ := Int.eq_ofNat_of_zero_le h0
    obtain ⟨_, hf, _⟩ := mode_fit (mode := mode) (k := k) (by omega)
    rw [Int.toNat_natCast, List.length_append, List.length_append, List.length_take, List.length_drop, h2]
    omega
  · exact h
theorem infoRaw : (Try.prog.info? 41).map (·.size) = some 72 := by kernel_rfl
def zero72 : List UInt8 := List.replicate 72 0
theorem zeroRaw (w : World) : (zeroValue 41).run Try.prog w = .ok (.agg (rawV zero72)) w := by kernel_rfl

end Go.Proofs.Ytckhkagkpldoiaa
