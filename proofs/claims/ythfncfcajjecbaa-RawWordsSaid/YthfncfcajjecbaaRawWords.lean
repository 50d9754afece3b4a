/- RawWords, walked: for every mode, raw bytes, word, chip, bytes the law returns true. -/
import Derived.Test.YthfncfcajjecbaaRawA
import Derived.Test.YthfncfcajjecbaaRawD
import Derived.Test.YthfncfcajjecbaaRawQ
import Derived.Deep.QuietTactic
import Derived.BigQuiet
import Derived.Deep.WholeRow
namespace Go.Proofs.Ythfncfcajjecbaa
open Go.RowKit Go.Shelf
attribute [local go_sem] Oper.semAt_some

theorem nd (mode : Int) : (chN mode = 0 ∧ wdN mode = 0 ∧ rightB mode = false) ∨ (chN mode = 9 ∧ wdN mode = 8 ∧ rightB mode = true) ∨ (chN mode = 36 ∧ wdN mode = 2 ∧ rightB mode = true) := by
  rcases modes mode with rfl | rfl | ⟨h1, h2⟩
  · exact .inr (.inl ⟨rfl, rfl, rfl⟩)
  · exact .inr (.inr ⟨rfl, rfl, rfl⟩)
  · exact .inl ⟨by unfold chN; rw [if_neg h1, if_neg h2], by unfold wdN; rw [if_neg h1, if_neg h2], by unfold rightB; simp [h1, h2]⟩

/-- The law's own blocks. -/
def At9 (w : World) (b0 b1 n : Nat) (a3 : Int) (cv : Array Value) (W : World) : Prop :=
  Blk W b0 23 cv ∧ Blk W (b0 + 1) 3 #[.int .i64 a3] ∧ Blk W (b0 + 1 + 1) 4 #[.bool false] ∧ Blk W b1 3 #[.int .i64 (n : Int)] ∧ Below b0 w W ∧ b1 + 1 ≤ W.heap.size ∧ b0 + 3 ≤ b1
theorem At9.drewN {w : World} {b0 b1 n : Nat} {a3 : Int} {cv : Array Value} {W : World} (h : At9 w b0 b1 n a3 cv W) (k : Nat) : At9 w b0 b1 n a3 cv (W.drewN k) :=
  ⟨h.1, h.2.1, h.2.2.1, h.2.2.2.1, below_drewN h.2.2.2.2.1 k, h.2.2.2.2.2⟩
theorem At9.below {w : World} {b0 b1 n : Nat} {a3 : Int} {cv : Array Value} {W W' : World} (h : At9 w b0 b1 n a3 cv W) (hb : Below W.heap.size W W') : At9 w b0 b1 n a3 cv W' := by
  obtain ⟨h0, h1, h2, h3, h4, h5, h6⟩ := h
  exact ⟨h0.below hb (by omega), h1.below hb (by omega), h2.below hb (by omega), h3.below hb (by omega), h4.trans (hb.mono (by omega)), Nat.le_trans h5 hb.size, h6⟩
theorem At9.alloc {w : World} {b0 b1 n : Nat} {a3 : Int} {cv : Array Value} {W : World} (h : At9 w b0 b1 n a3 cv W) (o : Obj) : At9 w b0 b1 n a3 cv (W.alloc o) := h.below ((Below.refl _ W).alloc (Nat.le_refl _) o)
theorem At9.cells {w : World} {b0 b1 n : Nat} {a3 : Int} {cv : Array Value} {W : World} (h : At9 w b0 b1 n a3 cv W) :
    W.cell? ⟨b0 + 1, 0, none⟩ = some (.int .i64 a3) ∧ W.cell? ⟨b0 + 1 + 1, 0, none⟩ = some (.bool false) ∧ W.cell? ⟨b1, 0, none⟩ = some (.int .i64 (n : Int)) ∧ W.frozen? ⟨b0 + 1 + 1, 0, none⟩ = false :=
  ⟨h.2.1.cell 0, h.2.2.1.cell 0, h.2.2.2.1.cell 0, h.2.2.1.frozen 0⟩

set_option maxRecDepth 100000 in
set_option maxHeartbeats 4000000 in
theorem RawWords_walk (a0 : Int) (xs : List UInt8) (a2 a3 : Int) (A4 : Option Addr) (n4 c4 : Nat) (z4 : List Int) (w : World) (_w0 : (Lit.int .i64 a0).wf = true) (lx : xs.length = 72) (_w2 : (Lit.int .i64 a2).wf = true) (w3 : (Lit.int .i64 a3).wf = true) (r4 : IsRow .u8 w A4 n4 c4 z4) :
    Calls Try.prog 3 #[.int .i64 a0, .agg (rawV xs), .int .i64 a2, .int .i64 a3, .slice A4 n4 c4] w fun e w' => e = .returned (.bool true) ∧ Below w.heap.size w w' := by
  obtain ⟨ys, hy, hyc, hym, hyr⟩ := r4.bytes
  have hb := boxRaw (rawV xs)
  have hz := zeroRaw
  have hnd := nd a0
  have HRF := Lib.hid (fun w => refChips_any a0 w)
  have HCH := Lib.hid (fun w => chips_any a0 w)
  have HRI := Lib.hid (fun w => right_any a0 w)
  have HWD := Lib.hid (fun w => words_any a0 w)
  have HWO := Lib.hid (fun w => word_any xs lx a0 a2 w)
  have HPU := Lib.hid (fun w h => put_any xs lx a0 a2 A4 n4 c4 ys hy w h)
  have hpl := putB_len (mode := a0) (word := a2) (b := ys) lx
  have hput : ∀ i, i < 72 → (putB a0 xs a2 ys).getD i 0 = if 0 ≤ a2 ∧ a2 < wdN a0 ∧ n4 = chN a0 ∧ chN a0 * a2.toNat ≤ i ∧ i < chN a0 * a2.toNat + chN a0 then ys.getD (i - chN a0 * a2.toNat) 0 else xs.getD i 0 := by
    intro i hi
    unfold putB
    by_cases hin : (0 ≤ a2 ∧ a2 < wdN a0) ∧ ys.length = chN a0
    · obtain ⟨_, hf, _⟩ := mode_fit (mode := a0) (k := a2.toNat) (by omega)
      rw [if_pos hin]
      simp only [List.getD_eq_getElem?_getD]
      by_cases h1 : i < chN a0 * a2.toNat
      · rw [if_neg (by omega), List.append_assoc, List.getElem?_append_left (by rw [List.length_take]; omega), List.getElem?_take_of_lt h1]
      · by_cases h2 : i < chN a0 * a2.toNat + chN a0
        · rw [if_pos (by omega), List.getElem?_append_left (by rw [List.length_append, List.length_take]; omega), List.getElem?_append_right (by rw [List.length_take]; omega), List.length_take, Nat.min_eq_left (by omega)]
        · rw [if_neg (by omega), List.getElem?_append_right (by rw [List.length_append, List.length_take]; omega), List.length_append, List.length_take, Nat.min_eq_left (by omega), hin.2, List.getElem?_drop]
          congr 2
          omega
    · rw [if_neg hin, if_neg (by omega)]
  have hpx : ¬ (0 ≤ a2 ∧ a2 < wdN a0 ∧ n4 = chN a0) → putB a0 xs a2 ys = xs := fun h => by unfold putB; rw [if_neg (by omega)]
  have hwb : ∀ j, 0 ≤ a2 → a2 < wdN a0 → j < chN a0 → (wordB a0 xs a2).getD j 0 = xs.getD (chN a0 * a2.toNat + j) 0 := fun j h1 h2 hj => by
    unfold wordB
    rw [if_pos ⟨h1, h2⟩, List.getD_eq_getElem?_getD, List.getD_eq_getElem?_getD, List.getElem?_take_of_lt hj, List.getElem?_drop]
  have hwl : (wordB a0 xs a2).length = if 0 ≤ a2 ∧ a2 < wdN a0 then chN a0 else 0 := by
    unfold wordB
    split
    · rename_i h
      obtain ⟨_, hf, _⟩ := mode_fit (mode := a0) (k := a2.toNat) (by omega)
      rw [List.length_take, List.length_drop]; omega
    · rfl
  have hof : ofL a0 a3 = if 0 ≤ a3 ∧ a3 < chN a0 then (List.range (wdN a0)).map (fun w => chN a0 * w + a3.toNat) else [] := rfl
  obtain ⟨n, hn⟩ : ∃ n, chN a0 = n := ⟨_, rfl⟩
  obtain ⟨d, hd⟩ : ∃ d, wdN a0 = d := ⟨_, rfl⟩
  obtain ⟨R, hR⟩ : ∃ R, rightB a0 = R := ⟨_, rfl⟩
  obtain ⟨PB, hPB⟩ : ∃ PB, putB a0 xs a2 ys = PB := ⟨_, rfl⟩
  obtain ⟨WB, hWB⟩ : ∃ WB, wordB a0 xs a2 = WB := ⟨_, rfl⟩
  rw [hn, hd, hR] at hnd
  rw [hn] at HRF HCH hput hpx hwb hwl hof
  rw [hd] at HWD hput hpx hwb hwl hof
  rw [hR] at HRI
  rw [hPB] at HPU hput hpx hpl
  rw [hWB] at HWO hwb hwl
  have DS := fun W => run_storeCells_new (P := Try.prog) W 23 (rawV zero72) (rawV PB) (by rw [rawV_size, hpl]; exact infoRaw) (by rw [rawV_size, rawV_size, hpl]; rfl) (rawV_one PB)
  have LX := fun {W : World} {g : Nat} (h : Blk W g 23 (rawV xs)) => run_loadVar_row (P := Try.prog) W g 23 23 (rawV xs) (0, 0) _ h Try.underlying23 rfl (by rw [rawV_size, lx]; exact infoRaw)
  have LP := fun {W : World} {g : Nat} (h : Blk W g 23 (rawV PB)) => run_loadVar_row (P := Try.prog) W g 23 23 (rawV PB) (0, 0) _ h Try.underlying23 rfl (by rw [rawV_size, hpl]; exact infoRaw)
  have EQ := fun W => eq_raw PB xs hpl lx W
  have hps : (rawV PB).size = 72 := by rw [rawV_size, hpl]
  have GX := fun i (hi : i < 72) => rawV_get xs (i := i) (by rw [lx]; exact hi)
  have GP := fun i (hi : i < 72) => rawV_get PB (i := i) (by rw [hpl]; exact hi)
  obtain ⟨cv, hcv⟩ : ∃ cv, rawV xs = cv := ⟨_, rfl⟩
  obtain ⟨pv, hpv⟩ : ∃ cv, rawV PB = cv := ⟨_, rfl⟩
  have hcp : PB = xs → pv = cv := fun h => by rw [← hpv, ← hcv, h]
  rw [hcv] at hb LX EQ GX HWO HPU ⊢
  rw [hpv] at HPU DS LP EQ GP hps
  have HX := Lib.hid lx
  have HY := Lib.hid (And.intro hy (And.intro hyc (And.intro hym hyr)))
  have HND := Lib.hid hnd
  have HPX := Lib.hid (And.intro hput hpx)
  have HWB := Lib.hid (And.intro hwb hwl)
  have HOF := Lib.hid hof
  have HLX := Lib.hid (And.intro @LX @LP)
  have HEQ := Lib.hid EQ
  have HPS := Lib.hid hps
  have HG := Lib.hid (And.intro GX GP)
  have HCP := Lib.hid hcp
  have HIT := Lib.hid (fun bm bc => of_iter (6 - 1) (by omega) bm bc a0 a3)
  obtain ⟨v0, v1⟩ := bounds_i64 w3
  obtain ⟨b0, hb0⟩ : ∃ b0, w.heap.size = b0 := ⟨_, rfl⟩
  have HB0 := Lib.hid hb0
  clear hps hput hpx hwb hwl hof LX LP EQ GX GP hn hd hR hPB hWB hcv hpv lx hpl hy hyc hym hyr hnd r4 _w0 _w2 w3 hcp
  refine (callsIn_wide (n := 6)).1 ?_
  refine callsIn_of_wp_marks Try.func3 rfl trivial ?_ rfl
  simp only [Try.ntmps3, List.size_toArray, List.length_cons, List.length_nil, Nat.reduceAdd, Nat.reduceSub, Array.replicate_succ, Array.replicate_zero, List.push_toArray, List.append_toArray, List.nil_append, List.cons_append]
  gi_wp2_with fail
  refine ⟨trivial, ?_⟩
  clear hb
  refine (callsIn_wide.2 (anchor9_any _)).mono ?_
  rintro e W1 ⟨rfl, hbw⟩
  simp only [World.size_alloc] at hbw ⊢
  rw [hb0] at hbw
  have A0 : Blk W1 b0 23 cv := (hbw.block b0 (by omega)).trans (by rw [← hb0]; exact ((Blk.new w _ _).alloc _).alloc _)
  have A1 : Blk W1 (b0 + 1) 3 #[.int .i64 a3] := (hbw.block (b0 + 1) (by omega)).trans (by
    rw [← hb0]; have h := (Blk.new (w.alloc (.cells cv 23)) 3 #[.int .i64 a3]); rw [World.size_alloc] at h; exact h.alloc _)
  have A2 : Blk W1 (b0 + 1 + 1) 4 #[.bool false] := (hbw.block (b0 + 1 + 1) (by omega)).trans (by
    rw [← hb0]; have h := (Blk.new ((w.alloc (.cells cv 23)).alloc (.cells #[.int .i64 a3] 3)) 4 #[.bool false]); simp only [World.size_alloc] at h; exact h)
  have AB : Below b0 w W1 := by
    rw [← hb0]; exact ((((Below.refl w.heap.size w).alloc (Nat.le_refl _) _).alloc (by simp) _).alloc (by simp; omega) _).trans (hbw.mono (by omega))
  have AZ : b0 + 3 ≤ W1.heap.size := Nat.le_trans (by simp [hb0]) hbw.size
  clear hbw
  gi_wp2_with fail
  refine ⟨trivial, ?_⟩
  refine (callsIn_wide.2 (HRF.out _)).mono ?_
  rintro e w2 ⟨rfl, rfl⟩
  obtain ⟨W, hW⟩ : ∃ W, W1.alloc (.cells #[.int .i64 (n : Int)] 3) = W := ⟨_, rfl⟩
  obtain ⟨b1, hb1⟩ : ∃ b1, W1.heap.size = b1 := ⟨_, rfl⟩
  have HA := Lib.hid (show At9 w b0 b1 n a3 cv W from ⟨by rw [← hW]; exact A0.alloc _, by rw [← hW]; exact A1.alloc _, by rw [← hW]; exact A2.alloc _, by rw [← hW, ← hb1]; exact Blk.new W1 _ _, by rw [← hW]; exact AB.alloc (by omega) _, by rw [← hW, ← hb1]; simp, by omega⟩)
  have HDS := Lib.hid (And.intro hz DS)
  clear A0 A1 A2 AB AZ hb0 hz DS
  obtain ⟨e0, e2, e3, f2⟩ := HA.out.cells
  gi_upto_if 25 with fail
  clear hW hb1
  gi_cut [12] from 26 (fun s wx => s = .int .i64 (d : Int) ∧ W = wx)
  case first => as_aux_lemma =>
    rcases HND.out with ⟨rfl, rfl, rfl⟩ | ⟨rfl, rfl, rfl⟩ | ⟨rfl, rfl, rfl⟩
    · rw [show ((0 : Nat) : Int) = 0 from rfl] at e3 ⊢
      gi_wp2
      gi_meet
      exact ⟨rfl, rfl⟩
    · rw [show ((9 : Nat) : Int) = 9 from rfl] at e3 ⊢
      gi_wp2
      gi_meet
      exact ⟨rfl, rfl⟩
    · rw [show ((36 : Nat) : Int) = 36 from rfl] at e3 ⊢
      gi_wp2
      gi_meet
      exact ⟨rfl, rfl⟩
  case rest =>
    obtain ⟨rfl, rfl⟩ := hcut
    gi_upto_region 7 with fail
    gi_cut [44] from 28 (fun s wx => s = .bool false ∧ ∃ k, wx = W.drewN k)
    case first => as_aux_lemma =>
      rcases HND.out with ⟨rfl, rfl, rfl⟩ | ⟨rfl, rfl, rfl⟩ | ⟨rfl, rfl, rfl⟩
      case' inl => rw [show ((0 : Nat) : Int) = 0 from rfl] at e3 HWD HCH ⊢
      case' inr.inl => rw [show ((9 : Nat) : Int) = 9 from rfl] at e3 HCH ⊢; rw [show ((8 : Nat) : Int) = 8 from rfl] at HWD ⊢
      case' inr.inr => rw [show ((36 : Nat) : Int) = 36 from rfl] at e3 HCH ⊢; rw [show ((2 : Nat) : Int) = 2 from rfl] at HWD ⊢
      all_goals
        refine wpIn_wide.2 ?_
        go_quiet ((first | (go_at_call 10; exact Calls.quiet_of_same ((HRI.out _).mono fun _ _ h => ⟨h.1, h.2.symm⟩)) | (go_at_call 11; exact Calls.quiet_of_same ((HCH.out _).mono fun _ _ h => ⟨h.1, h.2.symm⟩)) | (go_at_call 12; exact Calls.quiet_of_same ((HWD.out _).mono fun _ _ h => ⟨h.1, h.2.symm⟩))))
        gi_wp2
        gi_meet
        exact ⟨rfl, nq, rfl⟩
    case rest =>
      obtain ⟨rfl, k, rfl⟩ := hcut
      obtain ⟨V, hV⟩ : ∃ V, W.drewN k = V := ⟨_, rfl⟩
      rw [hV]
      replace HA := Lib.hid (show At9 w b0 b1 n a3 cv V by rw [← hV]; exact HA.out.drewN k)
      have yr : RdB V A4 ys := HY.out.2.2.2.below (by rw [HB0.out]; exact HA.out.2.2.2.2.1)
      clear e0 e2 e3 f2 hV
      obtain ⟨e0, e2, e3, f2⟩ := HA.out.cells
      gi_upto_region 9 with fail
      obtain ⟨th, hth⟩ : ∃ th, decide (0 ≤ a2 ∧ a2 < (d : Int)) = th := ⟨_, rfl⟩
      have HTH := Lib.hid hth
      clear hth
      gi_cut [13] from 45 (fun s wx => s = .bool th ∧ V = wx)
      case first => as_aux_lemma =>
        by_cases h0 : 0 ≤ a2
        · by_cases h1 : a2 < (d : Int)
          · have HT := Lib.hid (show true = th by rw [← HTH.out]; simp; omega)
            gi_wp2
            gi_meet
            exact ⟨by rw [HT.out], rfl⟩
          · have HT := Lib.hid (show false = th by rw [← HTH.out]; simp; omega)
            have h1 : (d : Int) ≤ a2 := by omega
            gi_wp2
            gi_meet
            exact ⟨by rw [HT.out], rfl⟩
        · have HT := Lib.hid (show false = th by rw [← HTH.out]; simp; omega)
          gi_wp2
          gi_meet
          exact ⟨by rw [HT.out], rfl⟩
      case rest =>
        obtain ⟨rfl, rfl⟩ := hcut
        have RY := Lib.hid yr
        clear yr
        have l1 := HLX.out.1 HA.out.1
        gi_wp2_with (refine wpListIn_load_at rfl 23 (.tmp 6) rfl ⟨b0, 0, none⟩ rfl (.agg cv) l1 ?_)
        refine ⟨trivial, ?_⟩
        refine (callsIn_wide.2 (HWO.out V)).mono ?_
        rintro e V2 ⟨AW, cW, rfl, hrd, hb⟩
        have yr := RY.out.below hb
        replace HA := Lib.hid (HA.out.below hb)
        have RW := Lib.hid hrd
        have RY := Lib.hid yr
        clear e0 e2 e3 f2 l1 hrd hb yr
        have l1 := HLX.out.1 HA.out.1
        obtain ⟨e0, e2, e3, f2⟩ := HA.out.cells
        gi_wp2_with (refine wpListIn_load_at rfl 23 (.tmp 6) rfl ⟨b0, 0, none⟩ rfl (.agg cv) l1 ?_)
        refine ⟨trivial, ?_⟩
        refine (callsIn_wide.2 (HPU.out V2 RY.out)).mono ?_
        rintro e V3 ⟨rfl, hb⟩
        have wr := RW.out.below hb
        have yr := RY.out.below hb
        replace HA := Lib.hid (HA.out.below hb)
        clear e0 e2 e3 f2 l1 hb RW RY
        obtain ⟨W4, hW4⟩ : ∃ W4, V3.alloc (.cells pv 23) = W4 := ⟨_, rfl⟩
        obtain ⟨b2, hb2⟩ : ∃ b2, V3.heap.size = b2 := ⟨_, rfl⟩
        have bt : Below V3.heap.size V3 W4 := by rw [← hW4]; exact (Below.refl _ V3).alloc (Nat.le_refl _) _
        have RW := Lib.hid (wr.below bt)
        have RY := Lib.hid (yr.below bt)
        have lbb : b1 < b2 := by rw [← hb2]; exact HA.out.2.2.2.2.2.1
        replace HA := Lib.hid (HA.out.below bt)
        have BP := Lib.hid (show Blk W4 b2 23 pv ∧ W4.heap.size = b2 + 1 ∧ b1 < b2 from ⟨by rw [← hW4, ← hb2]; exact Blk.new V3 _ _, by rw [← hW4, ← hb2]; simp, lbb⟩)
        have hz := HDS.out.1
        have hps := HPS.out
        have DS := HDS.out.2 V3
        rw [hb2, hW4] at DS
        clear wr yr bt lbb HDS
        obtain ⟨e0, e2, e3, f2⟩ := HA.out.cells
        have m1 := HLX.out.1 HA.out.1
        have m2 := HLX.out.2 BP.out.1
        gi_upto_region 12 with fail
        clear hz hps DS hW4 hb2
        have EQ := HEQ.out
        have guard := guard_raw
        gi_cut [91] from 61 (fun s wx => s = .bool false ∧ W4 = wx)
        case first => as_aux_lemma =>
          cases th
          · have hth := HTH.out
            rw [decide_eq_false_iff_not] at hth
            have hwl := HWB.out.2
            rw [if_neg hth] at hwl
            have hpx := HPX.out.2 (fun h => hth ⟨h.1, h.2.1⟩)
            have hd : decide (PB = xs) = true := decide_eq_true hpx
            rw [hd] at EQ
            have q2 : ((WB.length : Int) != 0) = false := by rw [bne_eq_false_iff_eq]; omega
            by_cases h0 : n = 0
            · have q1 : ((WB.length : Int) != (n : Int)) = false := by rw [bne_eq_false_iff_eq]; omega
              clear hth hwl hpx hd h0
              gi_wp2_with (first | (refine wpListIn_load_want rfl 23 (.tmp 6) rfl ⟨b0, 0, none⟩ rfl (.agg cv) m1 ?_) | (refine wpListIn_load_want rfl 23 (.tmp 15) rfl ⟨b2, 0, none⟩ rfl (.agg pv) m2 ?_))
              gi_meet
              exact ⟨rfl, rfl⟩
            · have q1 : ((WB.length : Int) != (n : Int)) = true := by rw [bne_iff_ne]; omega
              clear hth hwl hpx hd h0
              gi_wp2_with (first | (refine wpListIn_load_want rfl 23 (.tmp 6) rfl ⟨b0, 0, none⟩ rfl (.agg cv) m1 ?_) | (refine wpListIn_load_want rfl 23 (.tmp 15) rfl ⟨b2, 0, none⟩ rfl (.agg pv) m2 ?_))
              gi_meet
              exact ⟨rfl, rfl⟩
          · have hth := HTH.out
            rw [decide_eq_true_eq] at hth
            have hwl := HWB.out.2
            rw [if_pos hth] at hwl
            have hn0 : n ≠ 0 := by have := HND.out; omega
            have q1 : ((WB.length : Int) != (n : Int)) = false := by rw [bne_eq_false_iff_eq]; omega
            have q2 : ((WB.length : Int) != 0) = true := by rw [bne_iff_ne]; omega
            by_cases h4 : n4 = n
            · have q3 : ((n4 : Int) != (n : Int)) = false := by rw [bne_eq_false_iff_eq]; omega
              clear hth hwl hn0 h4
              gi_wp2_with (first | (refine wpListIn_load_want rfl 23 (.tmp 6) rfl ⟨b0, 0, none⟩ rfl (.agg cv) m1 ?_) | (refine wpListIn_load_want rfl 23 (.tmp 15) rfl ⟨b2, 0, none⟩ rfl (.agg pv) m2 ?_))
              gi_meet
              exact ⟨rfl, rfl⟩
            · have q3 : ((n4 : Int) != (n : Int)) = true := by rw [bne_iff_ne]; omega
              have hpx := HPX.out.2 (fun h => h4 h.2.2)
              have hd : decide (PB = xs) = true := decide_eq_true hpx
              rw [hd] at EQ
              clear hth hwl hn0 h4 hpx hd
              gi_wp2_with (first | (refine wpListIn_load_want rfl 23 (.tmp 6) rfl ⟨b0, 0, none⟩ rfl (.agg cv) m1 ?_) | (refine wpListIn_load_want rfl 23 (.tmp 15) rfl ⟨b2, 0, none⟩ rfl (.agg pv) m2 ?_))
              gi_meet
              exact ⟨rfl, rfl⟩
        case rest =>
          obtain ⟨rfl, rfl⟩ := hcut
          clear EQ guard HEQ m1 m2 e0 e2 e3 f2 HLX HPS HCP HRF HCH HRI HWD HWO HPU
          have HNK := Lib.hid (show th = true → ∃ k : Nat, a2 = (k : Int) ∧ k < d from fun h => by
            have h1 := HTH.out
            rw [h, decide_eq_true_eq] at h1
            exact ⟨a2.toNat, by omega, by omega⟩)
          have HNF := Lib.hid (show th = false → ¬ (0 ≤ a2 ∧ a2 < (d : Int)) from fun h => by
            have h1 := HTH.out
            rwa [h, decide_eq_false_iff_not] at h1)
          clear HTH
          gi_wp2_with fail
          gi_loopw [92] (fun i wr => ∃ j : Nat, j ≤ 72 ∧ i = .int .i64 j ∧ ∃ q, wr = W4.drewN q) (fun i _ => 72 - (intOf i).toNat)
          case atStart => exact ⟨0, by omega, rfl, 0, rfl⟩
          case round =>
            obtain ⟨j, hj, rfl, q, hq⟩ := hrel
            have HAr : At9 w b0 b1 n a3 cv wr := by rw [hq]; exact HA.out.drewN q
            by_cases hlt : j < 72
            · as_aux_lemma =>
              obtain ⟨e0, e2, e3, f2⟩ := HAr.cells
              have p1 : wr.cell? ⟨b0, j, none⟩ = some (.int .u8 ((xs.getD j 0).toNat : Int)) := (HAr.1.cell j).trans (HG.out.1 j hlt)
              have p2 : wr.cell? ⟨b2, j, none⟩ = some (.int .u8 ((PB.getD j 0).toNat : Int)) := by rw [hq]; exact (BP.out.1.cell j).trans (HG.out.2 j hlt)
              have hp := HPX.out.1 j hlt
              have HQ := Lib.hid hq
              cases th
              · have hpx := HPX.out.2 (fun h => HNF.out rfl ⟨h.1, h.2.1⟩)
                rw [hpx] at p2
                obtain ⟨X, hX⟩ : ∃ X, (xs.getD j 0).toNat = X := ⟨_, rfl⟩
                rw [hX] at p1 p2
                clear hp hpx hX hq HAr
                gi_upto_region 18 with fail
                refine wpIn_wide.2 ?_
                go_quiet (fail)
                gi_wp2
                go_roundw
                case rel => exact ⟨j + 1, by omega, by go_num, q + nq, by rw [HQ.out, World.drewN_drewN]⟩
                case measure => simp [intOf]; omega
              · obtain ⟨k, rfl, hk⟩ := HNK.out rfl
                rcases HND.out with ⟨rfl, rfl, rfl⟩ | ⟨rfl, rfl, rfl⟩ | ⟨rfl, rfl, rfl⟩
                · omega
                · rw [show ((9 : Nat) : Int) = 9 from rfl] at e3
                  obtain ⟨Q, hQ⟩ : ∃ Q, j / 9 = Q := ⟨_, rfl⟩
                  obtain ⟨R, hR⟩ : ∃ R, j % 9 = R := ⟨_, rfl⟩
                  have t1 : Int.tdiv (j : Int) 9 = (Q : Int) := by rw [← hQ]; rfl
                  have t2 : Int.tmod (j : Int) 9 = (R : Int) := by rw [← hR]; rfl
                  have hRl : R < 9 := by omega
                  have hQl : Q ≤ 72 := by omega
                  have hwl : WB.length = 9 := by rw [HWB.out.2, if_pos (by omega)]
                  rw [Int.toNat_natCast] at hp
                  by_cases hQk : Q = k
                  · subst hQk
                    have hw := HWB.out.1 R (by omega) (by omega) hRl
                    rw [Int.toNat_natCast, show 9 * Q + R = j from by omega] at hw
                    obtain ⟨bw, ow, rfl, _, cw⟩ := RW.out R (by omega)
                    rw [hw] at cw
                    replace cw : wr.cell? ⟨bw, ow + R, none⟩ = some (.int .u8 ((xs.getD j 0).toNat : Int)) := by rw [hq]; exact cw
                    obtain ⟨X, hX⟩ : ∃ X, (xs.getD j 0).toNat = X := ⟨_, rfl⟩
                    rw [hX] at p1 cw
                    have i1 : (R : Int) < (WB.length : Int) := by omega
                    by_cases h4 : n4 = 9
                    · subst h4
                      rw [if_pos (by omega), show j - 9 * Q = R from by omega] at hp
                      obtain ⟨by', oy, rfl, _, cy⟩ := RY.out R (by rw [HY.out.1]; exact hRl)
                      rw [← hp] at cy
                      replace cy : wr.cell? ⟨by', oy + R, none⟩ = some (.int .u8 ((PB.getD j 0).toNat : Int)) := by rw [hq]; exact cy
                      obtain ⟨Y, hY⟩ : ∃ Y, (PB.getD j 0).toNat = Y := ⟨_, rfl⟩
                      rw [hY] at p2 cy
                      have i2 : (R : Int) < ((9 : Nat) : Int) := by omega
                      clear hp hw hX hY hq HAr hQ hR hwl
                      gi_upto_region 18 with fail
                      refine wpIn_wide.2 ?_
                      go_quiet (fail)
                      gi_wp2
                      go_roundw
                      case rel => exact ⟨j + 1, by omega, by go_num, q + nq, by rw [HQ.out, World.drewN_drewN]⟩
                      case measure => simp [intOf]; omega
                    · have q3 : ((n4 : Int) == 9) = false := by rw [beq_eq_false_iff_ne]; omega
                      obtain ⟨Y, hY⟩ : ∃ Y, (PB.getD j 0).toNat = Y := ⟨_, rfl⟩
                      rw [hY] at p2
                      clear hp hw hX hY hq HAr hQ hR hwl h4
                      gi_upto_region 18 with fail
                      refine wpIn_wide.2 ?_
                      go_quiet (fail)
                      gi_wp2
                      go_roundw
                      case rel => exact ⟨j + 1, by omega, by go_num, q + nq, by rw [HQ.out, World.drewN_drewN]⟩
                      case measure => simp [intOf]; omega
                  · have q4 : ((Q : Int) == (k : Int)) = false := by rw [beq_eq_false_iff_ne]; omega
                    have hpx : PB.getD j 0 = xs.getD j 0 := by
                      rw [hp, if_neg]
                      rintro ⟨_, _, _, h5, h6⟩
                      apply hQk
                      omega
                    rw [hpx] at p2
                    obtain ⟨X, hX⟩ : ∃ X, (xs.getD j 0).toNat = X := ⟨_, rfl⟩
                    rw [hX] at p1 p2
                    clear hp hpx hX hq HAr hQ hR hwl hQk
                    gi_upto_region 18 with fail
                    refine wpIn_wide.2 ?_
                    go_quiet (fail)
                    gi_wp2
                    go_roundw
                    case rel => exact ⟨j + 1, by omega, by go_num, q + nq, by rw [HQ.out, World.drewN_drewN]⟩
                    case measure => simp [intOf]; omega
                · rw [show ((36 : Nat) : Int) = 36 from rfl] at e3
                  obtain ⟨Q, hQ⟩ : ∃ Q, j / 36 = Q := ⟨_, rfl⟩
                  obtain ⟨R, hR⟩ : ∃ R, j % 36 = R := ⟨_, rfl⟩
                  have t1 : Int.tdiv (j : Int) 36 = (Q : Int) := by rw [← hQ]; rfl
                  have t2 : Int.tmod (j : Int) 36 = (R : Int) := by rw [← hR]; rfl
                  have hRl : R < 36 := by omega
                  have hQl : Q ≤ 72 := by omega
                  have hwl : WB.length = 36 := by rw [HWB.out.2, if_pos (by omega)]
                  rw [Int.toNat_natCast] at hp
                  by_cases hQk : Q = k
                  · subst hQk
                    have hw := HWB.out.1 R (by omega) (by omega) hRl
                    rw [Int.toNat_natCast, show 36 * Q + R = j from by omega] at hw
                    obtain ⟨bw, ow, rfl, _, cw⟩ := RW.out R (by omega)
                    rw [hw] at cw
                    replace cw : wr.cell? ⟨bw, ow + R, none⟩ = some (.int .u8 ((xs.getD j 0).toNat : Int)) := by rw [hq]; exact cw
                    obtain ⟨X, hX⟩ : ∃ X, (xs.getD j 0).toNat = X := ⟨_, rfl⟩
                    rw [hX] at p1 cw
                    have i1 : (R : Int) < (WB.length : Int) := by omega
                    by_cases h4 : n4 = 36
                    · subst h4
                      rw [if_pos (by omega), show j - 36 * Q = R from by omega] at hp
                      obtain ⟨by', oy, rfl, _, cy⟩ := RY.out R (by rw [HY.out.1]; exact hRl)
                      rw [← hp] at cy
                      replace cy : wr.cell? ⟨by', oy + R, none⟩ = some (.int .u8 ((PB.getD j 0).toNat : Int)) := by rw [hq]; exact cy
                      obtain ⟨Y, hY⟩ : ∃ Y, (PB.getD j 0).toNat = Y := ⟨_, rfl⟩
                      rw [hY] at p2 cy
                      have i2 : (R : Int) < ((36 : Nat) : Int) := by omega
                      clear hp hw hX hY hq HAr hQ hR hwl
                      gi_upto_region 18 with fail
                      refine wpIn_wide.2 ?_
                      go_quiet (fail)
                      gi_wp2
                      go_roundw
                      case rel => exact ⟨j + 1, by omega, by go_num, q + nq, by rw [HQ.out, World.drewN_drewN]⟩
                      case measure => simp [intOf]; omega
                    · have q3 : ((n4 : Int) == 36) = false := by rw [beq_eq_false_iff_ne]; omega
                      obtain ⟨Y, hY⟩ : ∃ Y, (PB.getD j 0).toNat = Y := ⟨_, rfl⟩
                      rw [hY] at p2
                      clear hp hw hX hY hq HAr hQ hR hwl h4
                      gi_upto_region 18 with fail
                      refine wpIn_wide.2 ?_
                      go_quiet (fail)
                      gi_wp2
                      go_roundw
                      case rel => exact ⟨j + 1, by omega, by go_num, q + nq, by rw [HQ.out, World.drewN_drewN]⟩
                      case measure => simp [intOf]; omega
                  · have q4 : ((Q : Int) == (k : Int)) = false := by rw [beq_eq_false_iff_ne]; omega
                    have hpx : PB.getD j 0 = xs.getD j 0 := by
                      rw [hp, if_neg]
                      rintro ⟨_, _, _, h5, h6⟩
                      apply hQk
                      omega
                    rw [hpx] at p2
                    obtain ⟨X, hX⟩ : ∃ X, (xs.getD j 0).toNat = X := ⟨_, rfl⟩
                    rw [hX] at p1 p2
                    clear hp hpx hX hq HAr hQ hR hwl hQk
                    gi_upto_region 18 with fail
                    refine wpIn_wide.2 ?_
                    go_quiet (fail)
                    gi_wp2
                    go_roundw
                    case rel => exact ⟨j + 1, by omega, by go_num, q + nq, by rw [HQ.out, World.drewN_drewN]⟩
                    case measure => simp [intOf]; omega
            · obtain rfl : j = 72 := by omega
              rw [show ((72 : Nat) : Int) = 72 from rfl]
              have HAw := Lib.hid HAr
              obtain ⟨e0, e2, e3, f2⟩ := HAr.cells
              have c0 : ∀ o, (wr.alloc o).cell? ⟨b0 + 1, 0, none⟩ = some (.int .i64 a3) := fun o => (HAw.out.alloc o).cells.1
              clear hq hj hlt HAr HNK HNF HPX HG RW RY HWB HA BP
              gi_wp2_with fail
              refine ⟨trivial, ?_⟩
              refine (callsIn_wide.2 (of_any _ _ _)).mono ?_
              rintro e U ⟨rfl, hw4⟩
              simp only [World.size_alloc] at hw4 ⊢
              obtain ⟨b3, hb3⟩ : ∃ b3, wr.heap.size = b3 := ⟨_, rfl⟩
              rw [hb3]
              have M1 : Blk U b3 3 #[.int .i64 0] := by rw [hw4, ← hb3]; exact ((Blk.new wr _ _).alloc _).alloc _
              have M2 : Blk U (b3 + 1) 3 #[.int .i64 a0] := by
                rw [hw4, ← hb3]; have h := (Blk.new (wr.alloc (.cells #[.int .i64 0] 3)) 3 #[.int .i64 a0]); rw [World.size_alloc] at h; exact h.alloc _
              have M3 : Blk U (b3 + 2) 3 #[.int .i64 a3] := by
                rw [hw4, ← hb3]; have h := (Blk.new ((wr.alloc (.cells #[.int .i64 0] 3)).alloc (.cells #[.int .i64 a0] 3)) 3 #[.int .i64 a3]); simp only [World.size_alloc] at h; exact h
              have MA : At9 w b0 b1 n a3 cv U := by rw [hw4]; exact ((HAw.out.alloc _).alloc _).alloc _
              have MZ : U.heap.size = b3 + 3 := by rw [hw4, ← hb3]; simp
              have MB : b1 < b3 ∧ b0 + 3 ≤ b1 := ⟨by rw [← hb3]; exact HAw.out.2.2.2.2.2.1, HAw.out.2.2.2.2.2.2⟩
              have N1 := Lib.hid M1
              have N2 := Lib.hid M2
              have N3 := Lib.hid M3
              have NA := Lib.hid MA
              have NZ := Lib.hid MZ
              have NB := Lib.hid MB
              clear M1 M2 M3 MA MZ MB hw4 hb3 e0 e2 e3 f2 c0 HAw
              gi_wp2
              refine iter_law3 (n := 6) rfl (by omega) (gf := 25) (lb := #[.pointer (some ⟨b3 + 1, 0, none⟩), .pointer (some ⟨b3 + 2, 0, none⟩)]) rfl trivial (enters_of Try.func25 (by kernel_rfl) rfl)
                (HIT.out (b3 + 1) (b3 + 2)) (fun b => b < b3 + 3) ?hSt ?hO (fun _ h => h.elim) ?hK (fun _ => rfl)
                (fun i O U => O = (fun b => b < b3 + 3) ∧ Blk U b3 3 #[.int .i64 (i : Int)] ∧ At9 w b0 b1 n a3 cv U ∧ b3 + 3 ≤ U.heap.size)
                (fun _ _ _ _ => False)
                ?hI ?hIx ?h0 ?act1 ?assign ?body ?done ?stop
              case hSt =>
                intro U' hU
                have wz := NZ.out
                exact ⟨by rw [World.cell?_of_block (a := ⟨b3 + 1, 0, none⟩) (hU (b3 + 1) (by omega))]; exact N2.out.cell 0, by rw [World.cell?_of_block (a := ⟨b3 + 2, 0, none⟩) (hU (b3 + 2) (by omega))]; exact N3.out.cell 0⟩
              case hO => intro b hb; have := NZ.out; omega
              case hK => intro b hb; have := NZ.out; omega
              case hI =>
                rintro i O A B ⟨rfl, h0, ⟨g0, g1, g2, g3, g4, g5, g6⟩, h4⟩ t
                have nb := NB.out
                have k := fun {b : Nat} {cs : Array Value} {ty : TypeId} (h : Blk A b ty cs) (hb : b < b3 + 3) => (t.heap (fun e => e hb) h : Blk B b ty cs)
                exact ⟨rfl, k h0 (by omega), ⟨k g0 (by omega), k g1 (by omega), k g2 (by omega), k g3 (by omega), g4.trans (t.below (by omega) (fun b hb => by
                  rcases Nat.lt_or_ge b b0 with hlt | hge
                  · exact (hb (by omega)).elim
                  · exact hge)), Nat.le_trans g5 t.size, g6⟩, Nat.le_trans h4 t.size⟩
              case hIx => rintro c i O A B h t; exact h.elim
              case h0 => exact ⟨rfl, N1.out, NA.out, by have := NZ.out; omega⟩
              case assign =>
                intro l x W K hK
                gi_wp2
                exact hK
              case body => as_aux_lemma =>
                rintro l i x O U hx hsz ⟨rfl, h0, hA, h4⟩
                have nb := NB.out
                obtain ⟨c, rfl, hi, rfl, hcn⟩ : ∃ c : Nat, a3 = (c : Int) ∧ i < d ∧ x = n * i + c ∧ c < n := by
                  rw [HOF.out] at hx
                  split at hx
                  · rename_i hin
                    have hi : i < d := by have := (List.getElem?_eq_some_iff.1 hx).1; rw [List.length_map, List.length_range] at this; exact this
                    rw [List.getElem?_map, List.getElem?_range hi] at hx
                    exact ⟨a3.toNat, by omega, hi, (Option.some.inj hx).symm, by omega⟩
                  · simp at hx
                clear hx
                have hbn : n ≤ 36 ∧ d ≤ 8 := by have := HND.out; omega
                have hni : n * i ≤ 36 * 8 := Nat.mul_le_mul hbn.1 (by omega)
                obtain ⟨m2, hm2⟩ : ∃ m2, n * i = m2 := ⟨_, rfl⟩
                have hm3 : (n : Int) * (i : Int) = (m2 : Int) := by rw [← hm2]; push_cast; rfl
                rw [hm2] at hni ⊢
                push_cast
                have q1 : ((n : Int) == 0) = false := by rw [beq_eq_false_iff_ne]; omega
                have e1 := h0.cell 0
                have f1 := h0.frozen 0
                simp only [List.getElem?_toArray, List.getElem?_cons_zero] at e1
                obtain ⟨e0, e2, e3, f2⟩ := hA.cells
                have HI := Lib.hid (And.intro h0 (And.intro hA h4))
                have HNI := Lib.hid nb
                clear h0 hA h4 hsz nb hm2
                gi_wp2
                obtain ⟨h0, ⟨g0, g1, g2, g3, g4, g5, g6⟩, h4⟩ := HI.out
                have nb := HNI.out
                exact ⟨_, (Grow.refl _ (fun b hb => by omega)).setCell (p := ⟨b3, 0, none⟩) (.inr ⟨by show b3 < b3 + 3; omega, fun h => by rcases h with h | h <;> (have h' : b3 = _ := h; omega)⟩) _, rfl, h0.set_ 0 _,
                  ⟨g0.far (p := ⟨b3, 0, none⟩) (by show b0 ≠ b3; omega) _, g1.far (p := ⟨b3, 0, none⟩) (by show b0 + 1 ≠ b3; omega) _, g2.far (p := ⟨b3, 0, none⟩) (by show b0 + 1 + 1 ≠ b3; omega) _, g3.far (p := ⟨b3, 0, none⟩) (by show b1 ≠ b3; omega) _, g4.setCell (p := ⟨b3, 0, none⟩) (by show b0 ≤ b3; omega) _, by simp [World.setCell]; exact g5, g6⟩, by simp [World.setCell]; exact h4⟩
              case stop => rintro Dm c i O1 U hD hnD hlen h hK; exact h.elim
              case done => as_aux_lemma =>
                rintro Dm O1 U hD hnD ⟨rfl, h0, hA, h4⟩ hK
                obtain ⟨e0, e2, e3, f2⟩ := hA.cells
                by_cases c1 : 0 ≤ a3
                · by_cases c2 : a3 < (n : Int)
                  · rw [HOF.out, if_pos ⟨c1, c2⟩, List.length_map, List.length_range] at h0
                    have e1 := h0.cell 0
                    simp only [List.getElem?_toArray, List.getElem?_cons_zero] at e1
                    have H3 := Lib.hid hA
                    have HK := Lib.hid hK
                    clear h0 hA h4 hK
                    gi_wp2
                    have hKD := (KeepsOthers.setCell U ⟨b0 + 1 + 1, 0, none⟩ (.bool true)).same Dm _ HK.out rfl
                    refine ⟨by simp, .inl ⟨_, _, rfl, run_takeDeferred hKD, ?_⟩⟩
                    have hcell := cell_kept (World.cell?_setCell_same' U ⟨b0 + 1 + 1, 0, none⟩ (.bool true) (by rw [e2]; rfl)) (grownBy_putObj' _ Dm (.deferred none)) (fun r e => by cases e; exact ⟨_, hKD, rfl⟩)
                    refine ⟨_, by simp [results, Try.results3, go_sem, hcell], rfl, ?_⟩
                    have q := H3.out.2.2.2.2.1
                    have hb0 := HB0.out
                    have nz := NZ.out
                    have nb := NB.out
                    rw [← hb0] at q
                    exact (q.setCell (p := ⟨b0 + 1 + 1, 0, none⟩) (by show w.heap.size ≤ b0 + 1 + 1; omega) _).trans ((Turn.putObj (S := fun b => w.heap.size ≤ b) _ (l := Dm) (by omega) _).below (by have := q.size; simp [World.setCell]; exact this) (fun b hb => hb))
                  · rw [HOF.out, if_neg (fun h => c2 h.2), List.length_nil, show ((0 : Nat) : Int) = 0 from rfl] at h0
                    have c2 : (n : Int) ≤ a3 := by omega
                    have e1 := h0.cell 0
                    simp only [List.getElem?_toArray, List.getElem?_cons_zero] at e1
                    have H3 := Lib.hid hA
                    have HK := Lib.hid hK
                    clear h0 hA h4 hK
                    gi_wp2
                    have hKD := (KeepsOthers.setCell U ⟨b0 + 1 + 1, 0, none⟩ (.bool true)).same Dm _ HK.out rfl
                    refine ⟨by simp, .inl ⟨_, _, rfl, run_takeDeferred hKD, ?_⟩⟩
                    have hcell := cell_kept (World.cell?_setCell_same' U ⟨b0 + 1 + 1, 0, none⟩ (.bool true) (by rw [e2]; rfl)) (grownBy_putObj' _ Dm (.deferred none)) (fun r e => by cases e; exact ⟨_, hKD, rfl⟩)
                    refine ⟨_, by simp [results, Try.results3, go_sem, hcell], rfl, ?_⟩
                    have q := H3.out.2.2.2.2.1
                    have hb0 := HB0.out
                    have nz := NZ.out
                    have nb := NB.out
                    rw [← hb0] at q
                    exact (q.setCell (p := ⟨b0 + 1 + 1, 0, none⟩) (by show w.heap.size ≤ b0 + 1 + 1; omega) _).trans ((Turn.putObj (S := fun b => w.heap.size ≤ b) _ (l := Dm) (by omega) _).below (by have := q.size; simp [World.setCell]; exact this) (fun b hb => hb))
                · rw [HOF.out, if_neg (fun h => c1 h.1), List.length_nil, show ((0 : Nat) : Int) = 0 from rfl] at h0
                  have e1 := h0.cell 0
                  simp only [List.getElem?_toArray, List.getElem?_cons_zero] at e1
                  have H3 := Lib.hid hA
                  have HK := Lib.hid hK
                  clear h0 hA h4 hK
                  gi_wp2
                  have hKD := (KeepsOthers.setCell U ⟨b0 + 1 + 1, 0, none⟩ (.bool true)).same Dm _ HK.out rfl
                  refine ⟨by simp, .inl ⟨_, _, rfl, run_takeDeferred hKD, ?_⟩⟩
                  have hcell := cell_kept (World.cell?_setCell_same' U ⟨b0 + 1 + 1, 0, none⟩ (.bool true) (by rw [e2]; rfl)) (grownBy_putObj' _ Dm (.deferred none)) (fun r e => by cases e; exact ⟨_, hKD, rfl⟩)
                  refine ⟨_, by simp [results, Try.results3, go_sem, hcell], rfl, ?_⟩
                  have q := H3.out.2.2.2.2.1
                  have hb0 := HB0.out
                  have nz := NZ.out
                  have nb := NB.out
                  rw [← hb0] at q
                  exact (q.setCell (p := ⟨b0 + 1 + 1, 0, none⟩) (by show w.heap.size ≤ b0 + 1 + 1; omega) _).trans ((Turn.putObj (S := fun b => w.heap.size ≤ b) _ (l := Dm) (by omega) _).below (by have := q.size; simp [World.setCell]; exact this) (fun b hb => hb))
end Go.Proofs.Ythfncfcajjecbaa
