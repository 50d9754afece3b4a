/- Sums of polynomials: a walk. -/
import Derived.Test.YticbbkaelfbaiaaPolyC
namespace Go.Proofs.Yticbbkaelfbaiaa
open Go.RowKit Go.Shelf
set_option linter.unusedVariables false
attribute [local go_sem] Oper.semAt_some

/-- The sums of the first k. -/
def adTo (p q : List UInt8) (k : Nat) : List UInt8 := ofF p.length fun i => if i < k then co p i ^^^ co q i else co p i
theorem adTo_len (p q : List UInt8) (k : Nat) : (adTo p q k).length = p.length := ofF_len _ _
theorem ofF_co (p : List UInt8) : ofF p.length (co p) = p := list_ext (ofF_len _ _) fun i hi => by rw [ofF_len] at hi; rw [co_ofF, if_pos hi]
theorem adTo_zero (p q : List UInt8) : adTo p q 0 = p := by
  unfold adTo
  rw [ofF_congr (g := co p) fun i _ => if_neg (by omega)]
  exact ofF_co p
theorem adTo_co (p q : List UInt8) {k : Nat} (h : k < p.length) : co (adTo p q k) k = co p k := by
  unfold adTo
  rw [co_ofF, if_pos h, if_neg (by omega)]
theorem adTo_succ (p q : List UInt8) (k : Nat) : (adTo p q k).set k (co p k ^^^ co q k) = adTo p q (k + 1) :=
  ofF_succ_set _ _ _ _ _ fun i _ => by
    by_cases e : i = k
    · subst e; rw [if_pos (by omega), if_pos rfl]
    · rw [if_neg e]
      by_cases h : i < k
      · rw [if_pos (by omega), if_pos h]
      · rw [if_neg (by omega), if_neg h]
theorem adTo_all {p q : List UInt8} (h : q.length ≤ p.length) : trimL (adTo p q q.length) = addL p q := by
  unfold addL adTo
  refine trimL_congr fun i => ?_
  rw [co_ofF, co_ofF, Nat.max_eq_left h]
  split
  · split
    · rfl
    · rw [co_ge (p := q) (by omega), UInt8.xor_zero]
  · rfl

set_option maxRecDepth 100000 in
theorem add_any (A B : Option Addr) (n m c d : Nat) (p q : List UInt8) (hn : p.length = n) (hm : q.length = m) (bn : n ≤ 100000) (bm : m ≤ 100000) (w : World) (hx : RdB w A p) (hy : RdB w B q) :
    Calls Try.prog 15 #[.slice A n c, .slice B m d] w fun e w' => ∃ v, e = .returned v ∧ Fr w.heap.size w' v (addL p q) ∧ Below w.heap.size w w' := by
  have HX := Lib.hid (And.intro hx hy)
  have HN := Lib.hid (And.intro hn hm)
  clear hx hy hn hm
  by_cases hnm : n < m
  · have i3 : (n : Int) < (m : Int) := by omega
    obtain ⟨b0, hb0⟩ : ∃ b0, w.heap.size = b0 := ⟨_, rfl⟩
    have HB0 := Lib.hid hb0
    have OW := Lib.hid (Own.start b0 w)
    have OZ := Lib.hid (And.intro hb0 (Nat.le_refl b0))
    clear hb0
    refine (callsIn_wide (n := 6)).1 ?_
    refine callsIn_of_wp_marks Try.func15 rfl trivial ?_ rfl
    simp only [Try.ntmps15, List.size_toArray, List.length_cons, List.length_nil, Nat.reduceAdd, Nat.reduceSub, Array.replicate_succ, Array.replicate_zero, List.push_toArray, List.append_toArray, List.nil_append, List.cons_append]
    have HC := Lib.hid (cloneF_any B m d q HN.out.2 (by omega) w HX.out.2)
    gi_wp2_with fail
    refine ⟨trivial, ?_⟩
    refine (callsIn_wide.2 HC.out).mono ?_
    rintro e W1 ⟨v, rfl, hv, hbw⟩
    have HB := Lib.hid hbw
    rw [HB0.out] at hbw hv
    by_cases h0 : m = 0
    · have h00 : n = 0 := by omega
      have Hq := Lib.hid (show q = [] from List.length_eq_zero_iff.1 (by rw [HN.out.2]; exact h0))
      obtain ⟨A2, c2, rfl, hc2, hc3, hr⟩ := hv.open
      have HT := Lib.hid (trim_any A2 q.length c2 q rfl hc2 (by rw [HN.out.2]; omega) W1 hr)
      rw [show trimL q = addL q p by rw [← adTo_all (by rw [HN.out.2, HN.out.1]; omega), show p.length = 0 by rw [HN.out.1]; exact h00, adTo_zero]] at HT
      obtain ⟨N2, hN2⟩ : ∃ N2, q.length = N2 := ⟨_, rfl⟩
      rw [hN2] at HT ⊢
      clear hv hr hc2 hc3 hbw hN2
      subst h00
      gi_wp2
      gi_loopw [19] (fun i wr => i = .int .i64 0 ∧ wr = W1) (fun _ _ => 0)
      case atStart => exact ⟨rfl, rfl⟩
      case round =>
        obtain ⟨rfl, rfl⟩ := hrel
        gi_wp2_with fail
        refine ⟨trivial, ?_⟩
        refine (callsIn_wide.2 HT.out).mono ?_
        rintro e w2 ⟨v, rfl, h1, h2⟩
        gi_wp2
        have hs := HB.out.size
        exact ⟨v, by simp [results, Try.results15, go_sem], v, rfl, by rw [addL_comm]; exact h1.lower hs, HB.out.trans (h2.mono hs)⟩
    · obtain ⟨g, rest, rfl, hg, hm, hblk⟩ := hv.row (by rw [HN.out.2]; omega)
      rw [HN.out.2] at hm ⊢
      have OW2 : RowKit.Hid (Own b0 w [cellsO g 5 (rowV q rest)] W1) := Lib.hid (Own.add OW.out (hbw.mono (Nat.le_of_eq HB0.out)) (Nat.le_of_eq HB0.out.symm) (by rw [HB0.out]; exact hg) hblk)
      clear OW OZ hbw hv hblk HB
      gi_wp2
      gi_loopw [19] (fun i wr => ∃ k : Nat, k ≤ n ∧ i = .int .i64 k ∧ Own b0 w [cellsO g 5 (rowV (adTo q p k) rest)] wr) (fun i _ => n - (intOf i).toNat)
      case atStart => exact ⟨0, Nat.zero_le _, rfl, by rw [adTo_zero]; exact OW2.out⟩
      case round =>
        obtain ⟨k, hk, rfl, hO⟩ := hrel
        clear OW2
        have OW := Lib.hid hO
        obtain ⟨G, OZ⟩ := own_size OW HB0
        clear hO
        by_cases h1 : k < n
        · have i0 : (0 : Int) ≤ (k : Int) := by omega
          have i1 : (k : Int) < (n : Int) := by omega
          have i2 : (k : Int) < (m : Int) := by omega
          obtain ⟨b1, o1, rfl, hc⟩ := RdB.at k (OW.out.rd HB0.out HX.out.1) (by have := HN.out.1; omega)
          have hc2 := (OW.out.blk (k := 0) rfl).cell k
          rw [rowV_get (by rw [adTo_len, HN.out.2]; omega), adTo_co _ _ (by rw [HN.out.2]; omega)] at hc2
          have HS := Lib.hid (show (rowV (adTo q p k) rest).setIfInBounds k (vU (co q k ^^^ co p k)) = rowV (adTo q p (k + 1)) rest by rw [rowV_set (by rw [adTo_len, HN.out.2]; omega), adTo_succ])
          have HL := Lib.hid (show k < (rowV (adTo q p k) rest).size by rw [rowV_size, adTo_len, HN.out.2]; omega)
          have hxor := u8_xorP (co q k) (co p k)
          obtain ⟨x, hx⟩ : ∃ x, co q k = x := ⟨_, rfl⟩
          obtain ⟨y, hy⟩ : ∃ y, co p k = y := ⟨_, rfl⟩
          rw [hx] at hc2 HS hxor
          rw [hy] at hc HS hxor
          obtain ⟨z, hz⟩ : ∃ z, x ^^^ y = z := ⟨_, rfl⟩
          rw [hz] at HS hxor
          clear hx hy hz
          gi_wp2_with (refine own_store 0 5 (.tmp 30) (.tmp 29) rfl rfl rfl rfl (vU z) rfl _ HS.out HL.out rfl szU8 _ rfl OW OZ ?_; clear OW OZ; intro W OW OZ)
          go_roundw
          case rel => exact ⟨k + 1, by omega, by go_num, OW.out⟩
          case measure => simp [intOf]; omega
        · obtain rfl : k = n := by omega
          have h2 := OW.out.blk (k := 0) rfl
          have HT := Lib.hid (trim_any (some ⟨g, 0, none⟩) m (m + rest.length) (adTo q p k) (by rw [adTo_len, HN.out.2]) (Nat.le_add_right _ _) (by omega) wr (RdB.row h2))
          rw [show trimL (adTo q p k) = addL q p by rw [← adTo_all (by rw [HN.out.2, HN.out.1]; omega), HN.out.1]] at HT
          have HB := Lib.hid (OW.out.done HB0)
          clear h2
          gi_wp2_with fail
          refine ⟨trivial, ?_⟩
          refine (callsIn_wide.2 HT.out).mono ?_
          rintro e w2 ⟨v, rfl, h1, h2⟩
          gi_wp2
          exact ⟨v, by simp [results, Try.results15, go_sem], v, rfl, by rw [addL_comm]; exact h1.lower HB.out.size, HB.out.trans (h2.mono HB.out.size)⟩
  · have i3 : (m : Int) ≤ (n : Int) := by omega
    obtain ⟨b0, hb0⟩ : ∃ b0, w.heap.size = b0 := ⟨_, rfl⟩
    have HB0 := Lib.hid hb0
    have OW := Lib.hid (Own.start b0 w)
    have OZ := Lib.hid (And.intro hb0 (Nat.le_refl b0))
    clear hb0
    refine (callsIn_wide (n := 6)).1 ?_
    refine callsIn_of_wp_marks Try.func15 rfl trivial ?_ rfl
    simp only [Try.ntmps15, List.size_toArray, List.length_cons, List.length_nil, Nat.reduceAdd, Nat.reduceSub, Array.replicate_succ, Array.replicate_zero, List.push_toArray, List.append_toArray, List.nil_append, List.cons_append]
    have HC := Lib.hid (cloneF_any A n c p HN.out.1 (by omega) w HX.out.1)
    gi_wp2_with fail
    refine ⟨trivial, ?_⟩
    refine (callsIn_wide.2 HC.out).mono ?_
    rintro e W1 ⟨v, rfl, hv, hbw⟩
    have HB := Lib.hid hbw
    rw [HB0.out] at hbw hv
    by_cases h0 : n = 0
    · have h00 : m = 0 := by omega
      have Hp := Lib.hid (show p = [] from List.length_eq_zero_iff.1 (by rw [HN.out.1]; exact h0))
      obtain ⟨A2, c2, rfl, hc2, hc3, hr⟩ := hv.open
      have HT := Lib.hid (trim_any A2 p.length c2 p rfl hc2 (by rw [HN.out.1]; omega) W1 hr)
      rw [show trimL p = addL p q by rw [← adTo_all (by rw [HN.out.1, HN.out.2]; omega), show q.length = 0 by rw [HN.out.2]; exact h00, adTo_zero]] at HT
      obtain ⟨N2, hN2⟩ : ∃ N2, p.length = N2 := ⟨_, rfl⟩
      rw [hN2] at HT ⊢
      clear hv hr hc2 hc3 hbw hN2
      subst h00
      gi_wp2
      gi_loopw [19] (fun i wr => i = .int .i64 0 ∧ wr = W1) (fun _ _ => 0)
      case atStart => exact ⟨rfl, rfl⟩
      case round =>
        obtain ⟨rfl, rfl⟩ := hrel
        gi_wp2_with fail
        refine ⟨trivial, ?_⟩
        refine (callsIn_wide.2 HT.out).mono ?_
        rintro e w2 ⟨v, rfl, h1, h2⟩
        gi_wp2
        have hs := HB.out.size
        exact ⟨v, by simp [results, Try.results15, go_sem], v, rfl, by rw [show addL p q = addL p q from rfl]; exact h1.lower hs, HB.out.trans (h2.mono hs)⟩
    · obtain ⟨g, rest, rfl, hg, hm, hblk⟩ := hv.row (by rw [HN.out.1]; omega)
      rw [HN.out.1] at hm ⊢
      have OW2 : RowKit.Hid (Own b0 w [cellsO g 5 (rowV p rest)] W1) := Lib.hid (Own.add OW.out (hbw.mono (Nat.le_of_eq HB0.out)) (Nat.le_of_eq HB0.out.symm) (by rw [HB0.out]; exact hg) hblk)
      clear OW OZ hbw hv hblk HB
      gi_wp2
      gi_loopw [19] (fun i wr => ∃ k : Nat, k ≤ m ∧ i = .int .i64 k ∧ Own b0 w [cellsO g 5 (rowV (adTo p q k) rest)] wr) (fun i _ => m - (intOf i).toNat)
      case atStart => exact ⟨0, Nat.zero_le _, rfl, by rw [adTo_zero]; exact OW2.out⟩
      case round =>
        obtain ⟨k, hk, rfl, hO⟩ := hrel
        clear OW2
        have OW := Lib.hid hO
        obtain ⟨G, OZ⟩ := own_size OW HB0
        clear hO
        by_cases h1 : k < m
        · have i0 : (0 : Int) ≤ (k : Int) := by omega
          have i1 : (k : Int) < (m : Int) := by omega
          have i2 : (k : Int) < (n : Int) := by omega
          obtain ⟨b1, o1, rfl, hc⟩ := RdB.at k (OW.out.rd HB0.out HX.out.2) (by have := HN.out.2; omega)
          have hc2 := (OW.out.blk (k := 0) rfl).cell k
          rw [rowV_get (by rw [adTo_len, HN.out.1]; omega), adTo_co _ _ (by rw [HN.out.1]; omega)] at hc2
          have HS := Lib.hid (show (rowV (adTo p q k) rest).setIfInBounds k (vU (co p k ^^^ co q k)) = rowV (adTo p q (k + 1)) rest by rw [rowV_set (by rw [adTo_len, HN.out.1]; omega), adTo_succ])
          have HL := Lib.hid (show k < (rowV (adTo p q k) rest).size by rw [rowV_size, adTo_len, HN.out.1]; omega)
          have hxor := u8_xorP (co p k) (co q k)
          obtain ⟨x, hx⟩ : ∃ x, co p k = x := ⟨_, rfl⟩
          obtain ⟨y, hy⟩ : ∃ y, co q k = y := ⟨_, rfl⟩
          rw [hx] at hc2 HS hxor
          rw [hy] at hc HS hxor
          obtain ⟨z, hz⟩ : ∃ z, x ^^^ y = z := ⟨_, rfl⟩
          rw [hz] at HS hxor
          clear hx hy hz
          gi_wp2_with (refine own_store 0 5 (.tmp 30) (.tmp 29) rfl rfl rfl rfl (vU z) rfl _ HS.out HL.out rfl szU8 _ rfl OW OZ ?_; clear OW OZ; intro W OW OZ)
          go_roundw
          case rel => exact ⟨k + 1, by omega, by go_num, OW.out⟩
          case measure => simp [intOf]; omega
        · obtain rfl : k = m := by omega
          have h2 := OW.out.blk (k := 0) rfl
          have HT := Lib.hid (trim_any (some ⟨g, 0, none⟩) n (n + rest.length) (adTo p q k) (by rw [adTo_len, HN.out.1]) (Nat.le_add_right _ _) (by omega) wr (RdB.row h2))
          rw [show trimL (adTo p q k) = addL p q by rw [← adTo_all (by rw [HN.out.1, HN.out.2]; omega), HN.out.2]] at HT
          have HB := Lib.hid (OW.out.done HB0)
          clear h2
          gi_wp2_with fail
          refine ⟨trivial, ?_⟩
          refine (callsIn_wide.2 HT.out).mono ?_
          rintro e w2 ⟨v, rfl, h1, h2⟩
          gi_wp2
          exact ⟨v, by simp [results, Try.results15, go_sem], v, rfl, by rw [show addL p q = addL p q from rfl]; exact h1.lower HB.out.size, HB.out.trans (h2.mono HB.out.size)⟩
end Go.Proofs.Yticbbkaelfbaiaa
