/- Products of polynomials: a walk. -/
import Derived.Test.YtdgflbbffimpkaaPolyD
import Derived.Sort.CutIn
import Derived.Sort.BigQuietIn
namespace Go.Proofs.Ytdgflbbffimpkaa
open Go.RowKit Go.Shelf
set_option linter.unusedVariables false
attribute [local go_sem] Oper.semAt_some

/-- Behind i rounds. -/
def muF (p q : List UInt8) (i t : Nat) : UInt8 := xs i fun a => if a ≤ t then gm (co p a) (co q (t - a)) else 0
/-- And behind j steps of the next one. -/
def muIn (p q : List UInt8) (i j t : Nat) : UInt8 := muF p q i t ^^^ (if i ≤ t ∧ t < i + j then gm (co p i) (co q (t - i)) else 0)
theorem muIn_zero (p q : List UInt8) (i t : Nat) : muIn p q i 0 t = muF p q i t := by
  unfold muIn; rw [if_neg (by omega), UInt8.xor_zero]
theorem muIn_all {p q : List UInt8} (i t : Nat) : muIn p q i q.length t = muF p q (i + 1) t := by
  unfold muIn muF
  rw [xs_succ]
  congr 1
  by_cases h : i ≤ t
  · rw [if_pos h]
    by_cases h2 : t < i + q.length
    · rw [if_pos ⟨h, h2⟩]
    · rw [if_neg (by omega), co_ge (p := q) (by omega), gm_zero]
  · rw [if_neg (by omega), if_neg h]
theorem muF_all {p q : List UInt8} (t : Nat) : muF p q p.length t = conv (co p) (co q) t := by
  unfold muF conv
  have h0 : ∀ a, (t + 1 ≤ a ∨ p.length ≤ a) → (if a ≤ t then gm (co p a) (co q (t - a)) else 0) = 0 := fun a ha => by
    by_cases h : a ≤ t
    · rw [if_pos h, co_ge (p := p) (by omega), zero_gm]
    · rw [if_neg h]
  have e1 : xs (t + 1) (fun a => gm (co p a) (co q (t - a))) = xs (t + 1) fun a => if a ≤ t then gm (co p a) (co q (t - a)) else 0 := xs_congr fun i hi => by rw [if_pos (by omega)]
  rw [e1]
  rcases Nat.le_total (t + 1) p.length with h | h
  · exact xs_le h _ fun i hi => h0 i (.inl hi)
  · exact (xs_le h _ fun i hi => h0 i (.inr hi)).symm
def muTo (p q : List UInt8) (i j : Nat) : List UInt8 := ofF (p.length + q.length) (muIn p q i j)
theorem muTo_len (p q : List UInt8) (i j : Nat) : (muTo p q i j).length = p.length + q.length := ofF_len _ _
theorem muTo_start (p q : List UInt8) : muTo p q 0 0 = List.replicate (p.length + q.length) 0 := ofF_zero _ _ fun i _ => by rw [muIn_zero]; rfl
theorem muTo_next (p q : List UInt8) (i : Nat) : muTo p q i q.length = muTo p q (i + 1) 0 := ofF_congr fun t _ => by rw [muIn_all, muIn_zero]
theorem muTo_co {p q : List UInt8} {i j : Nat} (h : i + j < p.length + q.length) : co (muTo p q i j) (i + j) = muF p q i (i + j) := by
  unfold muTo
  rw [co_ofF, if_pos h]
  unfold muIn
  rw [if_neg (by omega), UInt8.xor_zero]
theorem muTo_set {p q : List UInt8} {i j : Nat} : (muTo p q i j).set (i + j) (muF p q i (i + j) ^^^ gm (co p i) (co q j)) = muTo p q i (j + 1) :=
  ofF_succ_set _ _ _ _ _ fun t _ => by
    unfold muIn
    by_cases e : t = i + j
    · subst e; rw [if_pos (by omega), if_pos rfl, Nat.add_sub_cancel_left]
    · rw [if_neg e]
      by_cases h : i ≤ t ∧ t < i + j
      · rw [if_pos (by omega), if_pos h]
      · rw [if_neg (by omega), if_neg h]
theorem muTo_all (p q : List UInt8) : trimL (muTo (trimL p) (trimL q) (tlL p) 0) = mulL p q := by
  unfold mulL muTo
  rw [trimL_len, trimL_len]
  refine trimL_congr fun t => ?_
  rw [co_ofF, co_ofF]
  split
  · have h := muF_all (p := trimL p) (q := trimL q) t
    rw [trimL_len] at h
    rw [muIn_zero, h]
    exact conv_congr (fun i _ => co_trimL p i) (fun i _ => co_trimL q i)
  · rfl

set_option maxRecDepth 100000 in
theorem pmul_any (b : Nat) (A B : Option Addr) (n m c d : Nat) (p q : List UInt8) (hn : p.length = n) (hm : q.length = m) (hc : n ≤ c) (hd : m ≤ d) (bn : n ≤ 50000) (bm : m ≤ 50000) (w : World) (hF : FieldAt w b) (hx : RdB w A p) (hy : RdB w B q) :
    Calls Try.prog 42 #[.pointer (some ⟨b, 0, none⟩), .slice A n c, .slice B m d] w fun e w' => ∃ v, e = .returned v ∧ Fr w.heap.size w' v (mulL p q) ∧ Below w.heap.size w w' := by
  have HT1 := Lib.hid (trim_any A n c p hn hc (by omega) w hx)
  have HT2 := Lib.hid (fun W h => trim_any B m d q hm hd (by omega) W h)
  have HF := Lib.hid hF
  have HY := Lib.hid hy
  have l1 := tlL_le p
  have l2 := tlL_le q
  have HLN := Lib.hid (And.intro (trimL_len p) (trimL_len q))
  have HRES := Lib.hid (muTo_all p q)
  rw [hn] at l1
  rw [hm] at l2
  clear hx hy hF
  refine (callsIn_wide (n := 6)).1 ?_
  refine callsIn_of_wp_marks Try.func42 rfl trivial ?_ rfl
  simp only [Try.ntmps42, List.size_toArray, List.length_cons, List.length_nil, Nat.reduceAdd, Nat.reduceSub, Array.replicate_succ, Array.replicate_zero, List.push_toArray, List.append_toArray, List.nil_append, List.cons_append]
  gi_wp2_with fail
  refine ⟨trivial, ?_⟩
  refine (callsIn_wide.2 HT1.out).mono ?_
  rintro e W1 ⟨v1, rfl, hv1, hb1⟩
  gi_wp2_with fail
  refine ⟨trivial, ?_⟩
  refine (callsIn_wide.2 (HT2.out W1 (HY.out.below hb1))).mono ?_
  rintro e W2 ⟨v2, rfl, hv2, hb2⟩
  obtain ⟨A1, c1, rfl, hc1, _, hr1⟩ := hv1.open
  obtain ⟨A2, c2, rfl, hc2, _, hr2⟩ := hv2.open
  have HX := Lib.hid (And.intro (hr1.below hb2) hr2)
  have HBW := Lib.hid (hb1.trans (hb2.mono hb1.size))
  have HF2 := Lib.hid (show FieldAt W2 b from ((HBW.out).block b (Array.getElem?_eq_some_iff.1 HF.out).1).trans HF.out)
  rw [HLN.out.1, HLN.out.2]
  have HPL := Lib.hid (And.intro HLN.out.1 HLN.out.2)
  obtain ⟨P, hP⟩ : ∃ P, trimL p = P := ⟨_, rfl⟩
  obtain ⟨Q, hQ⟩ : ∃ Q, trimL q = Q := ⟨_, rfl⟩
  obtain ⟨n1, hn1⟩ : ∃ n1, tlL p = n1 := ⟨_, rfl⟩
  obtain ⟨n2, hn2⟩ : ∃ n2, tlL q = n2 := ⟨_, rfl⟩
  rw [hP, hQ, hn1] at HRES
  rw [hP, hQ] at HX
  rw [hP, hQ, hn1, hn2] at HPL
  rw [hn1] at l1
  rw [hn2] at l2
  rw [hn1, hn2]
  clear hv1 hv2 hr1 hr2 hb1 hb2 hc1 hc2 hP hQ hn1 hn2 HLN HT1 HT2 HF HY
  obtain ⟨N, hN⟩ : ∃ N, n1 + n2 = N := ⟨_, rfl⟩
  have hwN : IntKind.i64.wrap ((n1 : Int) + (n2 : Int)) = (N : Int) := by rw [show (n1 : Int) + (n2 : Int) = (N : Int) from by omega]; exact IntWalk.i64_in _ (by omega)
  obtain ⟨b0, hb0⟩ : ∃ b0, W2.heap.size = b0 := ⟨_, rfl⟩
  have HB0 := Lib.hid hb0
  have OW := Lib.hid (Own.start b0 W2)
  have OZ := Lib.hid (And.intro hb0 (Nat.le_refl b0))
  clear hb0
  gi_wp2_with (refine own_make 52 5 (.tmp 20) rfl rfl N rfl _ (makeRow N (by omega)) OW OZ ?_; clear OW OZ; intro W OW OZ)
  gi_loopw [24] (fun i wr => ∃ k : Nat, k ≤ n1 ∧ i = .int .i64 k ∧ Own b0 W2 [cellsO b0 5 (rowV (muTo P Q k 0) [])] wr) (fun i _ => n1 - (intOf i).toNat)
  case atStart => exact ⟨0, Nat.zero_le _, rfl, by rw [muTo_start, HPL.out.1, HPL.out.2, hN]; exact OW.out⟩
  case round =>
    obtain ⟨k, hk, rfl, hO⟩ := hrel
    clear OW OZ
    have OW := Lib.hid hO
    obtain ⟨G, OZ⟩ := own_size OW HB0
    clear hO
    by_cases h1 : k < n1
    · have i0 : (0 : Int) ≤ (k : Int) := by omega
      have i1 : (k : Int) < (n1 : Int) := by omega
      obtain ⟨ba, oa, rfl, hca⟩ := RdB.at k (OW.out.rd HB0.out HX.out.1) (by have := HPL.out.1; omega)
      obtain ⟨x, hx⟩ : ∃ x, co P k = x := ⟨_, rfl⟩
      rw [hx] at hca
      have HXX := Lib.hid hx
      clear hx
      gi_wp2
      gi_loopw [31] (fun i wr => ∃ j : Nat, j ≤ n2 ∧ i = .int .i64 j ∧ Own b0 W2 [cellsO b0 5 (rowV (muTo P Q k j) [])] wr) (fun i _ => n2 - (intOf i).toNat)
      case atStart => exact ⟨0, Nat.zero_le _, rfl, OW.out⟩
      case round =>
        obtain ⟨j, hj, rfl, hO⟩ := hrel
        clear OW OZ hca
        have OW := Lib.hid hO
        obtain ⟨G, OZ⟩ := own_size OW HB0
        clear hO
        by_cases h2 : j < n2
        · have i2 : (0 : Int) ≤ (j : Int) := by omega
          have i3 : (j : Int) < (n2 : Int) := by omega
          obtain ⟨bb, ob, rfl, hcb⟩ := RdB.at j (OW.out.rd HB0.out HX.out.2) (by have := HPL.out.2; omega)
          have hlt : k + j < P.length + Q.length := by rw [HPL.out.1, HPL.out.2]; omega
          have hco := (OW.out.blk (k := 0) rfl).cell (k + j)
          rw [rowV_get (by rw [muTo_len]; exact hlt), muTo_co hlt] at hco
          have HS := Lib.hid (show (rowV (muTo P Q k j) []).setIfInBounds (k + j) (vU (muF P Q k (k + j) ^^^ gm (co P k) (co Q j))) = rowV (muTo P Q k (j + 1)) [] by rw [rowV_set (by rw [muTo_len]; exact hlt), muTo_set])
          have HL := Lib.hid (show k + j < (rowV (muTo P Q k j) []).size by rw [rowV_size, muTo_len]; exact hlt)
          obtain ⟨t, ht⟩ : ∃ t, k + j = t := ⟨_, rfl⟩
          have hwt : IntKind.i64.wrap ((k : Int) + (j : Int)) = (t : Int) := by rw [show (k : Int) + (j : Int) = (t : Int) from by omega]; exact IntWalk.i64_in _ (by omega)
          have i4 : (0 : Int) ≤ (t : Int) := by omega
          have i5 : (t : Int) < (N : Int) := by rw [HPL.out.1, HPL.out.2] at hlt; omega
          rw [ht] at hco HS HL
          rw [HXX.out] at HS
          obtain ⟨y, hy⟩ : ∃ y, co Q j = y := ⟨_, rfl⟩
          rw [hy] at hcb HS
          obtain ⟨s, hs⟩ : ∃ s, muF P Q k t = s := ⟨_, rfl⟩
          rw [hs] at hco HS
          have HM := Lib.hid (fun z => fmul_any b x y (wr.drewN z) ((OW.out.drewN z).field HB0.out HF2.out))
          have hxor := u8_xorP s (gm x y)
          obtain ⟨g, hg⟩ : ∃ g, gm x y = g := ⟨_, rfl⟩
          rw [hg] at HM HS hxor
          obtain ⟨u, hu⟩ : ∃ u, s ^^^ g = u := ⟨_, rfl⟩
          rw [hu] at HS hxor
          have FW : Fence.wide.fn 19 := trivial
          clear hy hs hg hu ht hlt
          gi_upto_region 9 with fail
          refine wpIn_region_tail 12 (by kernel_rfl) (by kernel_rfl) ?_
          simp only [List.take_succ_cons, List.take_zero, List.drop_succ_cons, List.drop_zero]
          repeat (gi_big_quiet_step ((gi_at_call 19; exact CallsIn.quiet_of (callsIn_wide.2 (HM.out _)))))
          refine wpQuietIn_nil ?_
          intro _ hw'
          obtain ⟨nq, hw''⟩ := hw'
          subst hw''
          have OW2 := Lib.hid (OW.out.drewN nq)
          clear OW OZ HM hco hcb
          have OW := OW2
          obtain ⟨G2, OZ⟩ := own_size OW HB0
          clear OW2
          gi_wp2_with (refine own_store 0 5 (.tmp 47) (.tmp 46) rfl rfl rfl rfl (vU u) rfl _ HS.out HL.out rfl szU8 _ rfl OW OZ ?_; clear OW OZ; intro W OW OZ)
          go_roundw
          case rel => exact ⟨j + 1, by omega, by go_num, OW.out⟩
          case measure => simp [intOf]; omega
        · obtain rfl : j = n2 := by omega
          have hnx := muTo_next P Q k
          rw [HPL.out.2] at hnx
          rw [hnx] at OW
          clear hnx
          gi_wp2
          go_roundw
          case rel => exact ⟨k + 1, by omega, by go_num, OW.out⟩
          case measure => simp [intOf]; omega
    · obtain rfl : k = n1 := by omega
      have h2 := OW.out.blk (k := 0) rfl
      have HT := Lib.hid (trim_any (some ⟨b0, 0, none⟩) N N (muTo P Q k 0) (by rw [muTo_len, HPL.out.1, HPL.out.2]; exact hN) (Nat.le_refl _) (by omega) wr (RdB.row h2))
      rw [HRES.out] at HT
      have HB := Lib.hid (HBW.out.trans ((OW.out.done HB0).mono HBW.out.size))
      clear h2
      gi_wp2_with fail
      refine ⟨trivial, ?_⟩
      refine (callsIn_wide.2 HT.out).mono ?_
      rintro e w2 ⟨v, rfl, h1, h2⟩
      gi_wp2
      exact ⟨v, by simp [results, Try.results42, go_sem], v, rfl, h1.lower HB.out.size, HB.out.trans (h2.mono HB.out.size)⟩
end Go.Proofs.Ytdgflbbffimpkaa
