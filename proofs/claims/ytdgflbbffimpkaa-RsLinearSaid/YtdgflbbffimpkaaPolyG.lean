/- What is left of a division: a walk. -/
import Derived.Test.YtdgflbbffimpkaaPolyF
namespace Go.Proofs.Ytdgflbbffimpkaa
open Go.RowKit Go.Shelf
set_option linter.unusedVariables false
attribute [local go_sem] Oper.semAt_some

/-- Within a round: j places of the divisor are taken, times a, from the place z on. -/
def mdIn (q : List UInt8) (a : UInt8) (o : List UInt8) (z j : Nat) : List UInt8 := ofF o.length fun x => if z ≤ x ∧ x < z + j then co o x ^^^ gm a (co q (x - z)) else co o x
theorem mdIn_len (q : List UInt8) (a : UInt8) (o : List UInt8) (z j : Nat) : (mdIn q a o z j).length = o.length := ofF_len _ _
theorem mdIn_zero (q : List UInt8) (a : UInt8) (o : List UInt8) (z : Nat) : mdIn q a o z 0 = o := by
  unfold mdIn
  rw [ofF_congr (g := co o) fun i _ => if_neg (by omega)]
  exact ofF_co o
theorem mdIn_co {q : List UInt8} {a : UInt8} {o : List UInt8} {z j : Nat} (h : z + j < o.length) : co (mdIn q a o z j) (z + j) = co o (z + j) := by
  unfold mdIn
  rw [co_ofF, if_pos h, if_neg (by omega)]
theorem mdIn_set {q : List UInt8} {a : UInt8} {o : List UInt8} {z j : Nat} : (mdIn q a o z j).set (z + j) (co o (z + j) ^^^ gm a (co q j)) = mdIn q a o z (j + 1) :=
  ofF_succ_set _ _ _ _ _ fun t _ => by
    by_cases e : t = z + j
    · subst e; rw [if_pos (by omega), if_pos rfl, Nat.add_sub_cancel_left]
    · rw [if_neg e]
      by_cases h : z ≤ t ∧ t < z + j
      · rw [if_pos (by omega), if_pos h]
      · rw [if_neg (by omega), if_neg h]
theorem mdIn_all {q : List UInt8} {t : UInt8} {o : List UInt8} {d i : Nat} (h : d ≤ i) : mdIn q (gm (co o i) t) o (i - d) (d + 1) = mdStep q d t o i := by
  unfold mdIn mdStep
  refine ofF_congr fun x _ => ?_
  by_cases h1 : i - d ≤ x ∧ x < i - d + (d + 1)
  · rw [if_pos h1, if_pos (by omega)]
  · rw [if_neg h1, if_neg (by omega)]

theorem pmod_zero (b : Nat) (A B : Option Addr) (n m c d : Nat) (q : List UInt8) (hm : q.length = m) (bm : m ≤ 50000) (h0 : tlL q = 0) (w : World) (hy : RdB w B q) :
    Calls Try.prog 30 #[.pointer (some ⟨b, 0, none⟩), .slice A n c, .slice B m d] w fun e w' => e = .returned (.tuple #[.slice none 0 0, .int .i64 16]) ∧ Below w.heap.size w w' := by
  have HD := Lib.hid (degree_any B m d q hm (by unfold maxLen; omega) w hy)
  rw [h0, show ((0 : Nat) : Int) - 1 = -1 from rfl] at HD
  clear hy
  refine (callsIn_wide (n := 6)).1 ?_
  refine callsIn_of_wp_marks Try.func30 rfl trivial ?_ rfl
  simp only [Try.ntmps30, List.size_toArray, List.length_cons, List.length_nil, Nat.reduceAdd, Nat.reduceSub, Array.replicate_succ, Array.replicate_zero, List.push_toArray, List.append_toArray, List.nil_append, List.cons_append]
  gi_wp2_with fail
  refine ⟨trivial, ?_⟩
  refine (callsIn_wide.2 HD.out).mono ?_
  rintro e W1 ⟨rfl, rfl⟩
  gi_wp2
  exact ⟨_, by simp [results, Try.results30, go_sem], rfl, Below.refl _ _⟩

set_option maxRecDepth 100000 in
set_option maxHeartbeats 1000000 in
theorem pmod_any (b : Nat) (A B : Option Addr) (n m c e : Nat) (p q : List UInt8) (hn : p.length = n) (hm : q.length = m) (bn : n ≤ 50000) (bm : m ≤ 50000) (h0 : 0 < tlL q) (w : World) (hF : FieldAt w b) (hx : RdB w A p) (hy : RdB w B q) :
    Calls Try.prog 30 #[.pointer (some ⟨b, 0, none⟩), .slice A n c, .slice B m e] w fun r w' => ∃ v, r = .returned (.tuple #[v, .int .i64 0]) ∧ Fr w.heap.size w' v (modL p q (gi (co q (tlL q - 1)))) ∧ Below w.heap.size w w' := by
  obtain ⟨d, hd⟩ : ∃ d, tlL q = d + 1 := ⟨tlL q - 1, by omega⟩
  have HD := Lib.hid (degree_any B m e q hm (by unfold maxLen; omega) w hy)
  have hdm := tlL_le q
  have hq0 := tlL_top q hd
  have HML := Lib.hid (show trimL (mdTo p q d (gi (co q d)) (n - d)) = modL p q (gi (co q (tlL q - 1))) by unfold modL; rw [hd, hn]; rfl)
  rw [hd, show ((d + 1 : Nat) : Int) - 1 = (d : Int) from by omega] at HD
  rw [hd, hm] at hdm
  have i9 : (0 : Int) ≤ (d : Int) := by omega
  have i8 : (d : Int) < (m : Int) := by omega
  obtain ⟨b1, o1, rfl, hcq⟩ := RdB.at d hy (by omega)
  have HI := Lib.hid (fun z => finv_any b (co q d) hq0 (w.drewN z) (hF.drewN z))
  obtain ⟨R, hR⟩ : ∃ R, modL p q (gi (co q (tlL q - 1))) = R := ⟨_, rfl⟩
  rw [hR] at HML ⊢
  obtain ⟨t, ht⟩ : ∃ t, gi (co q d) = t := ⟨_, rfl⟩
  rw [ht] at HML HI
  obtain ⟨y0, hy0⟩ : ∃ y0, co q d = y0 := ⟨_, rfl⟩
  rw [hy0] at hcq HI
  have HX := Lib.hid (And.intro hx hy)
  have HN := Lib.hid (And.intro hn hm)
  have HF := Lib.hid hF
  clear hx hy hF hn hm hR ht hy0 hq0 h0 hd
  refine (callsIn_wide (n := 6)).1 ?_
  refine callsIn_of_wp_marks Try.func30 rfl trivial ?_ rfl
  simp only [Try.ntmps30, List.size_toArray, List.length_cons, List.length_nil, Nat.reduceAdd, Nat.reduceSub, Array.replicate_succ, Array.replicate_zero, List.push_toArray, List.append_toArray, List.nil_append, List.cons_append]
  gi_wp2_with fail
  refine ⟨trivial, ?_⟩
  refine (callsIn_wide.2 HD.out).mono ?_
  rintro r W1 ⟨rfl, rfl⟩
  gi_wp2_with fail
  refine ⟨trivial, ?_⟩
  refine (callsIn_wide.2 (HI.out 0)).mono ?_
  rintro r W1 ⟨rfl, z, hz⟩
  have hb1 : Below w.heap.size w W1 := by rw [hz]; exact ⟨rfl, rfl, rfl, Nat.le_refl _, fun _ _ => rfl⟩
  have HC := Lib.hid (cloneF_any A n c p HN.out.1 (by omega) W1 (HX.out.1.below hb1))
  have HB1 := Lib.hid hb1
  clear hz hb1 hcq
  gi_wp2_with fail
  refine ⟨trivial, ?_⟩
  refine (callsIn_wide.2 HC.out).mono ?_
  rintro r W2 ⟨v, rfl, hv, hbw⟩
  have HBW := Lib.hid (HB1.out.trans (hbw.mono HB1.out.size))
  by_cases hn0 : n = 0
  · subst hn0
    have HPP := Lib.hid (show p = [] from List.length_eq_zero_iff.1 HN.out.1)
    obtain ⟨A2, c2, rfl, hc2, hc3, hr⟩ := hv.open
    have HT := Lib.hid (trim_any A2 p.length c2 p rfl hc2 (by rw [HN.out.1]; omega) W2 hr)
    rw [show trimL p = R by rw [← HML.out, Nat.zero_sub]; rfl] at HT
    rw [HN.out.1] at HT ⊢
    clear hv hr hc2 hc3 hbw HI HD HC
    gi_wp2
    gi_loopw [12] (fun i wr => i = .int .i64 (-1) ∧ wr = W2) (fun _ _ => 0)
    case atStart => exact ⟨rfl, rfl⟩
    case round =>
      obtain ⟨rfl, rfl⟩ := hrel
      have i7 : (-1 : Int) < (d : Int) := by omega
      have HB := Lib.hid (HBW.out)
      gi_wp2_with fail
      refine ⟨trivial, ?_⟩
      refine (callsIn_wide.2 HT.out).mono ?_
      rintro e w2 ⟨v, rfl, h1, h2⟩
      gi_wp2
      exact ⟨.tuple #[v, .int .i64 0], by simp [results, Try.results30, go_sem], v, rfl, h1.lower HB.out.size, HB.out.trans (h2.mono HB.out.size)⟩
  · obtain ⟨g, rest, rfl, hg, hlm, hblk⟩ := hv.row (by rw [HN.out.1]; omega)
    rw [HN.out.1] at hlm ⊢
    obtain ⟨b0, hb0⟩ : ∃ b0, W1.heap.size = b0 := ⟨_, rfl⟩
    rw [hb0] at hg
    have HB0 := Lib.hid hb0
    have OW : RowKit.Hid (Own b0 W1 [cellsO g 5 (rowV p rest)] W2) := Lib.hid (Own.add (Own.start b0 W1) hbw (Nat.le_of_eq hb0.symm) (by rw [hb0]; exact hg) hblk)
    have HX1 := Lib.hid (HX.out.2.below HB1.out)
    have HF1 := Lib.hid (show FieldAt W1 b from ((HB1.out).block b (Array.getElem?_eq_some_iff.1 HF.out).1).trans HF.out)
    have hw1 : IntKind.i64.wrap ((n : Int) - 1) = (n : Int) - 1 := IntWalk.i64_in _ (by omega)
    clear hv hbw hblk hb0 hg HD HI HC
    gi_wp2
    clear hw1
    gi_loopw [12] (fun i wr => ∃ k : Nat, k ≤ n - d ∧ i = .int .i64 ((n : Int) - 1 - k) ∧ Own b0 W1 [cellsO g 5 (rowV (mdTo p q d t k) rest)] wr) (fun i _ => (intOf i + 1).toNat)
    case atStart => exact ⟨0, Nat.zero_le _, by rw [show (n : Int) - 1 - ((0 : Nat) : Int) = (n : Int) - 1 from by omega], OW.out⟩
    case round =>
      obtain ⟨k, hk, rfl, hO⟩ := hrel
      clear OW
      have OW := Lib.hid hO
      obtain ⟨G, OZ⟩ := own_size OW HB0
      clear hO
      have HK := Lib.hid hk
      by_cases h1 : k < n - d
      · obtain ⟨i, hi⟩ : ∃ i, n - 1 - k = i := ⟨_, rfl⟩
        have hii : (n : Int) - 1 - (k : Int) = (i : Int) := by omega
        rw [hii]
        have i0 : (0 : Int) ≤ (i : Int) := by omega
        have i1 : (i : Int) < (n : Int) := by omega
        have i2 : (d : Int) ≤ (i : Int) := by omega
        have hco := (OW.out.blk (k := 0) rfl).cell i
        rw [rowV_get (by rw [mdTo_len, HN.out.1]; omega)] at hco
        have HST := Lib.hid (show mdTo p q d t (k + 1) = mdIn q (gm (co (mdTo p q d t k) i) t) (mdTo p q d t k) (i - d) (d + 1) by
          rw [mdTo, HN.out.1, hi]
          exact (mdIn_all (by omega)).symm)
        have HL := Lib.hid (show (mdTo p q d t k).length = n by rw [mdTo_len, HN.out.1])
        obtain ⟨o, ho⟩ : ∃ o, mdTo p q d t k = o := ⟨_, rfl⟩
        rw [ho] at hco HST HL OW
        obtain ⟨x, hx⟩ : ∃ x, co o i = x := ⟨_, rfl⟩
        rw [hx] at hco HST
        have HM := Lib.hid (fmul_any b x t wr (OW.out.field HB0.out HF1.out))
        obtain ⟨a, ha⟩ : ∃ a, gm x t = a := ⟨_, rfl⟩
        rw [ha] at HM HST
        have HI := Lib.hid (And.intro hi hii)
        clear ho hx ha hi hii hk
        gi_wp2_with fail
        refine ⟨trivial, ?_⟩
        refine (callsIn_wide.2 HM.out).mono ?_
        rintro r w2 ⟨rfl, z, hz⟩
        have OW2 := Lib.hid (OW.out.drewN z)
        rw [← hz] at OW2
        clear OW OZ HM hz hco
        have OW := OW2
        clear OW2
        have hw2 : IntKind.i64.wrap ((d : Int) + 1) = (d : Int) + 1 := IntWalk.i64_in _ (by omega)
        gi_wp2
        clear hw2
        gi_loopw [50] (fun s wr => ∃ j : Nat, j ≤ d + 1 ∧ s = .int .i64 j ∧ Own b0 W1 [cellsO g 5 (rowV (mdIn q a o (i - d) j) rest)] wr) (fun s _ => d + 1 - (intOf s).toNat)
        case atStart => exact ⟨0, Nat.zero_le _, rfl, by rw [mdIn_zero]; exact OW.out⟩
        case round =>
          obtain ⟨j, hj, rfl, hO⟩ := hrel
          clear OW
          have OW := Lib.hid hO
          obtain ⟨G, OZ⟩ := own_size OW HB0
          clear hO
          by_cases h2 : j < d + 1
          · have i3 : (0 : Int) ≤ (j : Int) := by omega
            have i4 : (j : Int) < (d : Int) + 1 := by omega
            have i5 : (j : Int) < (m : Int) := by omega
            obtain ⟨bb, ob, hBe, hcb⟩ := RdB.at j (OW.out.rd HB0.out HX1.out) (by have := HN.out.2; omega)
            injection hBe with hBe
            injection hBe with e1 e2
            subst e1 e2
            have hlt : i - d + j < o.length := by rw [HL.out]; omega
            have hco := (OW.out.blk (k := 0) rfl).cell (i - d + j)
            rw [rowV_get (by rw [mdIn_len]; exact hlt), mdIn_co hlt] at hco
            have HS := Lib.hid (show (rowV (mdIn q a o (i - d) j) rest).setIfInBounds (i - d + j) (vU (co o (i - d + j) ^^^ gm a (co q j))) = rowV (mdIn q a o (i - d) (j + 1)) rest by rw [rowV_set (by rw [mdIn_len]; exact hlt), mdIn_set])
            have HL2 := Lib.hid (show i - d + j < (rowV (mdIn q a o (i - d) j) rest).size by rw [rowV_size, mdIn_len]; omega)
            obtain ⟨z, hz⟩ : ∃ z, i - d = z := ⟨_, rfl⟩
            have hw3 : IntKind.i64.wrap ((i : Int) - (d : Int)) = (z : Int) := by rw [show (i : Int) - (d : Int) = (z : Int) from by omega]; exact IntWalk.i64_in _ (by omega)
            obtain ⟨t2, ht2⟩ : ∃ t2, i - d + j = t2 := ⟨_, rfl⟩
            have hw4 : IntKind.i64.wrap ((z : Int) + (j : Int)) = (t2 : Int) := by rw [show (z : Int) + (j : Int) = (t2 : Int) from by omega]; exact IntWalk.i64_in _ (by omega)
            have i6 : (0 : Int) ≤ (t2 : Int) := by omega
            have i7 : (t2 : Int) < (n : Int) := by have := HL.out; omega
            rw [ht2] at hco HS HL2
            obtain ⟨y, hy⟩ : ∃ y, co q j = y := ⟨_, rfl⟩
            rw [hy] at hcb HS
            obtain ⟨s, hs⟩ : ∃ s, co o t2 = s := ⟨_, rfl⟩
            rw [hs] at hco HS
            have HM := Lib.hid (fun z => fmul_any b a y (wr.drewN z) ((OW.out.drewN z).field HB0.out HF1.out))
            have hxor := u8_xorP s (gm a y)
            obtain ⟨f, hf⟩ : ∃ f, gm a y = f := ⟨_, rfl⟩
            rw [hf] at HM HS hxor
            obtain ⟨u, hu⟩ : ∃ u, s ^^^ f = u := ⟨_, rfl⟩
            rw [hu] at HS hxor
            have FW : Fence.wide.fn 19 := trivial
            clear hy hs hf hu ht2 hz hlt
            gi_upto_region 15 with fail
            refine wpIn_region_tail 17 (by kernel_rfl) (by kernel_rfl) ?_
            simp only [List.take_succ_cons, List.take_zero, List.drop_succ_cons, List.drop_zero]
            repeat (gi_big_quiet_step ((gi_at_call 19; exact CallsIn.quiet_of (callsIn_wide.2 (HM.out _)))))
            refine wpQuietIn_nil ?_
            intro _ hw'
            obtain ⟨nq, hw''⟩ := hw'
            subst hw''
            have OW2 := Lib.hid (OW.out.drewN nq)
            clear OW OZ HM hco hcb hw3 hw4
            have OW := OW2
            obtain ⟨G2, OZ⟩ := own_size OW HB0
            clear OW2
            gi_wp2_with (refine own_store 0 5 (.tmp 69) (.tmp 68) rfl rfl rfl rfl (vU u) rfl _ HS.out HL2.out rfl szU8 _ rfl OW OZ ?_; clear OW OZ; intro W OW OZ)
            go_roundw
            case rel => exact ⟨j + 1, by omega, by go_num, OW.out⟩
            case measure => simp [intOf]; omega
          · obtain rfl : j = d + 1 := by omega
            rw [← HST.out] at OW
            have hw5 : IntKind.i64.wrap ((i : Int) - 1) = (i : Int) - 1 := IntWalk.i64_in _ (by omega)
            gi_wp2
            go_roundw
            case rel => exact ⟨k + 1, by omega, by have := HI.out.2; go_num, OW.out⟩
            case measure => simp [intOf]
      · have HT := Lib.hid (trim_any (some ⟨g, 0, none⟩) n (n + rest.length) (mdTo p q d t k) (by rw [mdTo_len, HN.out.1]) (Nat.le_add_right _ _) (by omega) wr (RdB.row (OW.out.blk (k := 0) rfl)))
        rw [show k = n - d from by omega, HML.out] at HT
        obtain ⟨z, hz⟩ : ∃ z, (n : Int) - 1 - (k : Int) = z := ⟨_, rfl⟩
        have i7 : z < (d : Int) := by omega
        rw [hz]
        clear hz
        have HB := Lib.hid (HB1.out.trans ((OW.out.done HB0).mono HB1.out.size))
        gi_wp2_with fail
        refine ⟨trivial, ?_⟩
        refine (callsIn_wide.2 HT.out).mono ?_
        rintro e w2 ⟨v, rfl, h1, h2⟩
        gi_wp2
        exact ⟨.tuple #[v, .int .i64 0], by simp [results, Try.results30, go_sem], v, rfl, h1.lower HB.out.size, HB.out.trans (h2.mono HB.out.size)⟩
end Go.Proofs.Ytdgflbbffimpkaa
