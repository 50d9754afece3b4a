/- The document's columns as one array, and its syndromes and verdicts: walks. -/
import Derived.Test.YtbhonojfglhbeaaHsR
import Derived.Test.YtbhonojfglhbeaaArr
import Derived.Laws.Rows
import Derived.Laws.CopyRow
import Derived.Deep.WholeRow
namespace Go.Proofs.Ytbhonojfglhbeaa
open Go.RowKit

def colsAt (k : Nat) : Array Value := ((List.range k).map (fun i => Value.int .u8 (col i : Nat)) ++ List.replicate (74 - k) (Value.int .u8 0)).toArray
def colsV : Array Value := colsAt 74
theorem colsAt_size {k : Nat} (h : k ≤ 74) : (colsAt k).size = 74 := by unfold colsAt; simp; omega
theorem colsAt_succ {k : Nat} (h : k < 74) : (colsAt k).setIfInBounds k (.int .u8 (col k : Nat)) = colsAt (k + 1) := by
  unfold colsAt
  rw [List.setIfInBounds_toArray]
  congr 1
  rw [List.set_append_right _ _ (by simp), List.length_map, List.length_range, Nat.sub_self]
  obtain ⟨m, hm⟩ : ∃ m, 74 - k = m + 1 := ⟨74 - k - 1, by omega⟩
  rw [hm, List.replicate_succ, List.set_cons_zero, show 74 - (k + 1) = m by omega, List.range_succ, List.map_append, List.append_assoc]
  rfl
theorem colsAt_get {k i : Nat} (hk : k ≤ 74) (hi : i < 74) : ∃ v, (colsAt k)[i]? = some v := ⟨_, Array.getElem?_eq_getElem (by rw [colsAt_size hk]; exact hi)⟩
theorem colsV_get {i : Nat} (hi : i < 74) : colsV[i]? = some (.int .u8 (col i : Nat)) := by
  unfold colsV colsAt
  rw [List.getElem?_toArray, Nat.sub_self, List.replicate_zero, List.append_nil, List.getElem?_map, List.getElem?_range hi]
  rfl
theorem info74 : (Try.prog.info? 41).map (·.size) = some 74 := by kernel_rfl
theorem zero74 (w : World) : (zeroValue 41).run Try.prog w = .ok (.agg (colsAt 0)) w := by kernel_rfl
theorem colsAt_one {k : Nat} : (colsAt k).all (·.oneCell') = true := by
  rw [Array.all_eq_true_iff_forall_mem]
  intro v hv
  unfold colsAt at hv
  simp only [List.mem_toArray, List.mem_append, List.mem_map, List.mem_replicate] at hv
  rcases hv with ⟨_, _, rfl⟩ | ⟨_, rfl⟩ <;> rfl

set_option maxRecDepth 100000 in
set_option maxHeartbeats 1000000 in
theorem refColumns_any (w : World) :
    Calls Try.prog 20 #[] w fun e w' => e = .returned (.agg colsV) ∧ Below w.heap.size w w' := by
  have hz := zero74
  go_enter Try.func20, Try.ntmps20
  go_wp2
  clear hz
  obtain ⟨b0, hb0⟩ : ∃ b0, w.heap.size = b0 := ⟨_, rfl⟩
  obtain ⟨W0, hW0⟩ : ∃ W0, (w.alloc (.cells (colsAt 0) 41)).alloc (.cells (colsAt 0) 41) = W0 := ⟨_, rfl⟩
  rw [hW0, hb0]
  have k0 : Blk W0 b0 41 (colsAt 0) := by rw [← hW0, ← hb0]; exact (Blk.new w _ _).alloc _
  have k1 : Blk W0 (b0 + 1) 41 (colsAt 0) := by
    rw [← hW0, ← hb0]; have h := Blk.new (w.alloc (.cells (colsAt 0) 41)) 41 (colsAt 0)
    rw [World.size_alloc] at h; exact h
  have kb : Below b0 w W0 := by rw [← hW0, ← hb0]; exact ((Below.refl _ w).alloc (Nat.le_refl _) _).alloc (by simp) _
  have HB0 := Lib.hid hb0
  have K0 := Lib.hid k0
  have K1 := Lib.hid k1
  have KB := Lib.hid kb
  clear hW0 hb0 k0 k1 kb
  go_loopw [2] (fun i wr => ∃ k : Nat, k ≤ 74 ∧ i = .int .i64 k ∧ Blk wr (b0 + 1) 41 (colsAt k) ∧ Blk wr b0 41 (colsAt 0) ∧ Below b0 w wr) (fun i _ => 74 - (intOf i).toNat)
  case atStart => exact ⟨0, by omega, rfl, K1.out, K0.out, KB.out⟩
  case round =>
    obtain ⟨k, hk, rfl, h0, h1, h2⟩ := hrel
    clear K0 K1 KB
    by_cases hlt : k < 74
    · obtain ⟨v, hv⟩ := colsAt_get hk hlt
      have e0 : wr.cell? ⟨b0 + 1, k, none⟩ = some v := by rw [h0.cell]; exact hv
      have f0 := h0.frozen k
      have i1 : (k : Int) < 74 := by omega
      have RC := refColumn_any (k : Int) (by omega) (by omega) wr
      rw [show colI (k : Int) = col k by unfold colI; rw [if_pos (by omega)]; rfl] at RC
      have hs := colsAt_succ hlt
      obtain ⟨c, hc⟩ : ∃ c, col k = c := ⟨_, rfl⟩
      rw [hc] at RC hs
      have HRC := Lib.hid RC
      have HI := Lib.hid (And.intro h0 (And.intro h1 (And.intro h2 hs)))
      clear RC h0 h1 h2 hs hc hv
      go_wp2_with fail
      refine HRC.out.mono ?_
      rintro e w' ⟨rfl, rfl⟩
      go_wp2
      go_roundw
      case rel =>
        obtain ⟨h0, h1, h2, hs⟩ := HI.out
        exact ⟨k + 1, by omega, by go_num, by rw [← hs]; exact h0.set_ k _, h1.far (p := ⟨b0 + 1, k, none⟩) (by show b0 ≠ b0 + 1; omega) _, h2.setCell (p := ⟨b0 + 1, k, none⟩) (by show b0 ≤ b0 + 1; omega) _⟩
      case measure => simp [intOf]; omega
    · obtain rfl : k = 74 := by omega
      rw [show ((74 : Nat) : Int) = 74 from rfl]
      have hsz : (colsAt 74).size = 74 := colsAt_size (Nat.le_refl _)
      have hi1 : (Try.prog.info? 41).map (·.size) = some (colsAt 74).size := by rw [hsz]; exact info74
      have hst := run_storeRow (P := Try.prog) h1 (cs := colsAt 74) (by rw [hsz, colsAt_size (by omega)]) colsAt_one
      have HI := Lib.hid (And.intro h0 (And.intro h1 (And.intro h2 hi1)))
      clear h0 h1 h2 hsz hi1
      go_wp2_with (refine wpList_load_row rfl 41 (.tmp 1) rfl (b0 + 1) rfl 41 (colsAt 74) (0, 0) _ HI.out.1 Try.underlying41 rfl HI.out.2.2.2 ?_)
      obtain ⟨h0, h1, h2, hi1⟩ := HI.out
      refine bodyPost_ret (v := .agg colsV) (results_cell_row rfl _ _ b0 41 (colsAt 74) (0, 0) _ rfl (h1.setRow _) Try.underlying41 rfl hi1) rfl ⟨rfl, ?_⟩
      rw [HB0.out]
      exact below_setRow h2 (Nat.le_refl _) _

theorem oneV : colsV.all (·.oneCell') = true := colsAt_one
theorem boxArr (cv : Array Value) (w : World) : (Instr.box 41 (.agg cv)).run Try.prog w = .ok (.pointer (some ⟨w.heap.size, 0, none⟩)) (w.alloc (.cells cv 41)) := rfl

set_option maxRecDepth 100000 in
set_option maxHeartbeats 1000000 in
theorem refSyndrome_any (d k : Nat) (ld : d < 18446744073709551616) (lk : k < 256) (a p : Int) (w : World) :
    Calls Try.prog 23 #[.agg colsV, .int .u64 (d : Int), .int .u8 (k : Int), .int .i64 a, .int .i64 p] w fun e w' => e = .returned (.int .u8 ((chk d (low a) (low p) ^^^ k : Nat) : Int)) ∧ Below w.heap.size w w' := by
  obtain ⟨cv, hcv⟩ : ∃ cv, colsV = cv := ⟨_, rfl⟩
  have hb := boxArr cv
  have CG := fun i (hi : i < 74) => (show cv[i]? = some (.int .u8 (col i : Nat)) by rw [← hcv]; exact colsV_get hi)
  have la := i64_and1I a
  have lp := i64_and1I p
  have ma := low_lt a
  have mp := low_lt p
  have hch : chk d (low a) (low p) ^^^ k = (k ^^^ cs d) ^^^ mark (low a) 72 ^^^ mark (low p) 73 := by
    unfold chk
    rw [Nat.xor_comm _ k, ← Nat.xor_assoc, ← Nat.xor_assoc]
  obtain ⟨x, hx⟩ : ∃ x, low a = x := ⟨_, rfl⟩
  obtain ⟨y, hy⟩ : ∃ y, low p = y := ⟨_, rfl⟩
  rw [hx] at la ma hch ⊢
  rw [hy] at lp mp hch ⊢
  rw [hcv]
  have HCG := Lib.hid CG
  have HCH := Lib.hid hch
  have lS := cs_lt d
  clear hcv CG hch hx hy
  go_enter Try.func23, Try.ntmps23
  go_wp2
  clear hb
  obtain ⟨b0, hb0⟩ : ∃ b0, w.heap.size = b0 := ⟨_, rfl⟩
  obtain ⟨W, hW⟩ : ∃ W, w.alloc (.cells cv 41) = W := ⟨_, rfl⟩
  rw [hW, hb0]
  have kb : Below b0 w W := by rw [← hW, ← hb0]; exact (Below.refl _ w).alloc (Nat.le_refl _) _
  have kc : ∀ i, i < 74 → W.cell? ⟨b0, i, none⟩ = some (.int .u8 (col i : Nat)) := fun i hi => by
    have h : Blk W b0 41 cv := by rw [← hW, ← hb0]; exact Blk.new w _ _
    rw [h.cell]; exact HCG.out i hi
  have HB0 := Lib.hid hb0
  have KB := Lib.hid kb
  have KC := Lib.hid kc
  clear hW hb0 kb kc HCG
  go_loop [1, 11, 12] (fun z s i => ∃ j q t : Nat, j ≤ 64 ∧ i = .int .i64 j ∧ q < 18446744073709551616 ∧ z = .int .u64 q ∧ t < 256 ∧ s = .int .u8 t ∧ t ^^^ csTo (64 - j) j q = k ^^^ cs d) (fun _ _ i => 64 - (intOf i).toNat)
  case atStart => exact ⟨0, d, k, by omega, rfl, ld, rfl, lk, rfl, rfl⟩
  case round =>
    obtain ⟨j, q, t, hj, rfl, lq, rfl, lt, rfl, hr⟩ := hrel
    by_cases hlt : j < 64
    · rw [show 64 - j = (63 - j) + 1 by omega, csTo] at hr
      have kc := KC.out j (by omega)
      have lc := col_lt j
      obtain ⟨c, hc⟩ : ∃ c, col j = c := ⟨_, rfl⟩
      rw [hc] at kc lc hr
      have hxor := u8_xorN t c lt lc
      have i1 : (j : Int) < 74 := by omega
      by_cases ho : q % 2 = 1
      · rw [if_pos ho, ← Nat.xor_assoc] at hr
        have q1 : ((q : Int) % 2 == 1) = true := by rw [beq_iff_eq]; omega
        have HR := Lib.hid hr
        have LL := Lib.hid (Nat.xor_lt_two_pow (n := 8) lt lc : t ^^^ c < 256)
        clear hr ho hc
        go_wp2
        go_round
        case rel => exact ⟨j + 1, q / 2, t ^^^ c, by omega, by go_num, by omega, by go_num, LL.out, rfl, by rw [show 64 - (j + 1) = 63 - j by omega]; exact HR.out⟩
        case measure => simp [intOf]; omega
      · rw [if_neg ho, Nat.zero_xor] at hr
        have q1 : ((q : Int) % 2 == 1) = false := by rw [beq_eq_false_iff_ne]; omega
        have HR := Lib.hid hr
        clear hr ho hc
        go_wp2
        go_round
        case rel => exact ⟨j + 1, q / 2, t, by omega, by go_num, by omega, by go_num, lt, rfl, by rw [show 64 - (j + 1) = 63 - j by omega]; exact HR.out⟩
        case measure => simp [intOf]; omega
    · obtain rfl : j = 64 := by omega
      rw [show ((64 : Nat) : Int) = 64 from rfl]
      rw [Nat.sub_self, show csTo 0 64 q = 0 from rfl, Nat.xor_zero] at hr
      have k72 := KC.out 72 (by omega)
      have k73 := KC.out 73 (by omega)
      have l72 := col_lt 72
      have l73 := col_lt 73
      have hch := HCH.out
      rw [← hr] at hch
      have m72 : mark x 72 = if x % 2 = 1 then col 72 else 0 := rfl
      have m73 : mark y 73 = if y % 2 = 1 then col 73 else 0 := rfl
      obtain ⟨P, hP⟩ : ∃ P, col 72 = P := ⟨_, rfl⟩
      obtain ⟨Q, hQ⟩ : ∃ Q, col 73 = Q := ⟨_, rfl⟩
      rw [hP] at k72 l72 m72
      rw [hQ] at k73 l73 m73
      rw [m72, m73] at hch
      have x1 := u8_xorN t P lt l72
      have x2 := u8_xorN t Q lt l73
      have x3 := u8_xorN (t ^^^ P) Q (Nat.xor_lt_two_pow (n := 8) lt l72) l73
      have HC := Lib.hid hch
      clear hch m72 m73 hP hQ hr HCH l72 l73
      have hx2 : x = 0 ∨ x = 1 := by omega
      have hy2 : y = 0 ∨ y = 1 := by omega
      clear ma mp
      rcases hx2 with rfl | rfl <;> rcases hy2 with rfl | rfl
      · rw [show ((0 : Nat) : Int) = 0 from rfl] at la lp
        have HD := Lib.hid (show chk d 0 0 ^^^ k = t by rw [HC.out]; simp)
        clear HC x1 x2 x3
        go_wp2
        go_ret
        rw [HD.out, HB0.out]; exact ⟨rfl, KB.out⟩
      · rw [show ((0 : Nat) : Int) = 0 from rfl] at la
        rw [show ((1 : Nat) : Int) = 1 from rfl] at lp
        have HD := Lib.hid (show chk d 0 1 ^^^ k = t ^^^ Q by rw [HC.out]; simp)
        clear HC x1 x3
        go_wp2
        go_ret
        rw [HD.out, HB0.out]; exact ⟨rfl, KB.out⟩
      · rw [show ((0 : Nat) : Int) = 0 from rfl] at lp
        rw [show ((1 : Nat) : Int) = 1 from rfl] at la
        have HD := Lib.hid (show chk d 1 0 ^^^ k = t ^^^ P by rw [HC.out]; simp)
        clear HC x2 x3
        go_wp2
        go_ret
        rw [HD.out, HB0.out]; exact ⟨rfl, KB.out⟩
      · rw [show ((1 : Nat) : Int) = 1 from rfl] at la lp
        have HD := Lib.hid (show chk d 1 1 ^^^ k = t ^^^ P ^^^ Q by rw [HC.out]; simp)
        clear HC x2
        go_wp2
        go_ret
        rw [HD.out, HB0.out]; exact ⟨rfl, KB.out⟩

set_option maxRecDepth 100000 in
set_option maxHeartbeats 1000000 in
theorem refClassify_any (s : Nat) (hs : s < 256) (w : World) :
    Calls Try.prog 21 #[.agg colsV, .int .u8 (s : Int)] w fun e w' => e = .returned (.tuple #[.int .i64 ((verdict s).1 : Nat), .int .i64 (verdict s).2]) ∧ Below w.heap.size w w' := by
  obtain ⟨cv, hcv⟩ : ∃ cv, colsV = cv := ⟨_, rfl⟩
  have hb := boxArr cv
  have CG := fun i (hi : i < 74) => (show cv[i]? = some (.int .u8 (col i : Nat)) by rw [← hcv]; exact colsV_get hi)
  rw [hcv]
  have HCG := Lib.hid CG
  clear hcv CG
  by_cases h0 : s = 0
  · subst h0
    go_enter Try.func21, Try.ntmps21
    go_wp2
    go_ret2
    exact ⟨rfl, (Below.refl _ w).alloc (Nat.le_refl _) _⟩
  · have z1 : ((s : Int) == 0) = false := by rw [beq_eq_false_iff_ne]; omega
    have hv := verdict_cases hs
    have hat := fun i (hi : i < 74) (h : col i = s) => (show atS s = (i : Int) by rw [← h]; exact at_col hi)
    have HV := Lib.hid (And.intro h0 (And.intro hv hat))
    clear hv hat h0
    go_enter Try.func21, Try.ntmps21
    go_wp2
    clear hb
    obtain ⟨b0, hb0⟩ : ∃ b0, w.heap.size = b0 := ⟨_, rfl⟩
    obtain ⟨W, hW⟩ : ∃ W, w.alloc (.cells cv 41) = W := ⟨_, rfl⟩
    rw [hW, hb0]
    have kb : Below b0 w W := by rw [← hW, ← hb0]; exact (Below.refl _ w).alloc (Nat.le_refl _) _
    have kc : ∀ i, i < 74 → W.cell? ⟨b0, i, none⟩ = some (.int .u8 (col i : Nat)) := fun i hi => by
      have h : Blk W b0 41 cv := by rw [← hW, ← hb0]; exact Blk.new w _ _
      rw [h.cell]; exact HCG.out i hi
    have HB0 := Lib.hid hb0
    have KB := Lib.hid kb
    have KC := Lib.hid kc
    clear hW hb0 kb kc HCG
    go_loop [6] (fun i => ∃ j : Nat, j ≤ 74 ∧ i = .int .i64 j ∧ ∀ l, l < j → col l ≠ s) (fun i => 74 - (intOf i).toNat)
    case atStart => exact ⟨0, by omega, rfl, fun l hl => by omega⟩
    case round =>
      obtain ⟨j, hj, rfl, hno⟩ := hrel
      by_cases hlt : j < 74
      · have kc := KC.out j hlt
        obtain ⟨c, hc⟩ : ∃ c, col j = c := ⟨_, rfl⟩
        rw [hc] at kc
        have i1 : (j : Int) < 74 := by omega
        by_cases hcs : c = s
        · have hat := HV.out.2.2 j hlt (hc.trans hcs)
          have hv : verdict s = if (j : Int) = 72 then (3, -1) else if (j : Int) = 73 then (2, -1) else (1, (j : Int)) := by
            unfold verdict; rw [if_neg HV.out.1, hat, if_neg (by omega)]
          subst hcs
          have HVV := Lib.hid hv
          clear hv hat hc hno
          by_cases h72 : j = 72
          · subst h72
            rw [show ((72 : Nat) : Int) = 72 from rfl]
            have HV2 := Lib.hid (show verdict c = (3, -1) by rw [HVV.out]; rfl)
            go_wp2
            go_ret2
            rw [HV2.out, HB0.out]; exact ⟨rfl, KB.out⟩
          · by_cases h73 : j = 73
            · subst h73
              rw [show ((73 : Nat) : Int) = 73 from rfl]
              have HV2 := Lib.hid (show verdict c = (2, -1) by rw [HVV.out]; rfl)
              go_wp2
              go_ret2
              rw [HV2.out, HB0.out]; exact ⟨rfl, KB.out⟩
            · have q2 : ((j : Int) == 72) = false := by rw [beq_eq_false_iff_ne]; omega
              have q3 : ((j : Int) == 73) = false := by rw [beq_eq_false_iff_ne]; omega
              have HV2 := Lib.hid (show verdict c = (1, (j : Int)) by rw [HVV.out, if_neg (by omega), if_neg (by omega)])
              clear h72 h73
              go_wp2
              go_ret2
              rw [HV2.out, HB0.out]; exact ⟨rfl, KB.out⟩
        · have q1 : ((c : Int) == (s : Int)) = false := by rw [beq_eq_false_iff_ne]; omega
          have HNO := Lib.hid (show ∀ l, l < j + 1 → col l ≠ s from fun l hl => by
            by_cases h : l = j
            · rw [h, hc]; exact hcs
            · exact hno l (by omega))
          clear hno hc hcs
          go_wp2
          go_round
          case rel => exact ⟨j + 1, by omega, by go_num, HNO.out⟩
          case measure => simp [intOf]; omega
      · obtain rfl : j = 74 := by omega
        rw [show ((74 : Nat) : Int) = 74 from rfl]
        have hv : verdict s = (4, -1) := by
          rcases HV.out.2.1 with ⟨h, _⟩ | ⟨_, _, h⟩ | ⟨h, _⟩ | ⟨h, _⟩ | ⟨t, ht, h, _⟩
          · exact absurd h HV.out.1
          · exact h
          · exact absurd h.symm (hno 72 (by omega))
          · exact absurd h.symm (hno 73 (by omega))
          · exact absurd h.symm (hno t (by omega))
        have HV2 := Lib.hid hv
        clear hv hno
        go_wp2
        go_ret2
        rw [HV2.out, HB0.out]; exact ⟨rfl, KB.out⟩
end Go.Proofs.Ytbhonojfglhbeaa
