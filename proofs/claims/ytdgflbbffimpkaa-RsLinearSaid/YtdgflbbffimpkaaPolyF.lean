/- The polynomial of some roots: a walk; slices that are written out. -/
import Derived.Test.YtdgflbbffimpkaaPolyE
import Derived.Test.YtdgflbbffimpkaaPolyL2
import Derived.Great.BuildSlice
import Derived.Test.YtdgflbbffimpkaaOwnV
namespace Go.Proofs.Ytdgflbbffimpkaa
open Go.RowKit Go.Shelf
set_option linter.unusedVariables false
attribute [local go_sem] Oper.semAt_some

set_option maxRecDepth 100000 in
theorem roots_any (b : Nat) (A : Option Addr) (n c : Nat) (rs : List UInt8) (hn : rs.length = n) (bn : n ≤ 40000) (w : World) (hF : FieldAt w b) (hx : RdB w A rs) :
    Calls Try.prog 35 #[.pointer (some ⟨b, 0, none⟩), .slice A n c] w fun e w' => ∃ v, e = .returned v ∧ Fr w.heap.size w' v (rootsL rs) ∧ Below w.heap.size w w' := by
  have HX := Lib.hid hx
  have HF := Lib.hid hF
  have HN := Lib.hid hn
  have HR := Lib.hid (show rtTo rs n = rootsL rs by unfold rootsL; rw [hn])
  clear hx hF hn
  refine (callsIn_wide (n := 6)).1 ?_
  refine callsIn_of_wp_marks Try.func35 rfl trivial ?_ rfl
  simp only [Try.ntmps35, List.size_toArray, List.length_cons, List.length_nil, Nat.reduceAdd, Nat.reduceSub, Array.replicate_succ, Array.replicate_zero, List.push_toArray, List.append_toArray, List.nil_append, List.cons_append]
  gi_wp2
  gi_loopw [5, 11] (fun v i wr => ∃ k : Nat, k ≤ n ∧ i = .int .i64 k ∧ Fr w.heap.size wr v (rtTo rs k) ∧ Below w.heap.size w wr) (fun _ i _ => n - (intOf i).toNat)
  case atStart =>
    refine ⟨0, Nat.zero_le _, rfl, ?_, (Below.refl _ w).alloc (Nat.le_refl _) _⟩
    exact Fr.ofBlk (xs := [1]) (rest := []) (Blk.new w _ _) (Nat.le_refl _) (by show 1 ≤ maxLen; unfold maxLen; omega)
  case round =>
    obtain ⟨k, hk, rfl, hfr, hbw⟩ := hrel
    have HB := Lib.hid hbw
    by_cases h1 : k < n
    · have i0 : (0 : Int) ≤ (k : Int) := by omega
      have i1 : (k : Int) < (n : Int) := by omega
      obtain ⟨A1, c1, rfl, hc1, hc2, hr⟩ := hfr.open
      obtain ⟨bb, ob, rfl, hcb⟩ := RdB.at k (HX.out.below hbw) (by have := HN.out; omega)
      have HLN := Lib.hid (rtTo_len rs k)
      have HRR := Lib.hid hr
      obtain ⟨m, hm⟩ : ∃ m, (rtTo rs k).length = m := ⟨_, rfl⟩
      rw [hm] at HLN hc1
      have HM := Lib.hid hm
      have HC1 := Lib.hid hc1
      rw [hm]
      have HST := Lib.hid (show mulL (rtTo rs k) [co rs k, 1] = rtTo rs (k + 1) from rfl)
      obtain ⟨x, hx⟩ : ∃ x, co rs k = x := ⟨_, rfl⟩
      rw [hx] at hcb HST
      clear hx hfr hbw hr hm hc1 hc2
      gi_wp2_with fail
      refine ⟨trivial, ?_⟩
      have hbw2 : Below wr.heap.size wr (wr.alloc (.cells (rowV [x, 1] []) 5)) := (Below.refl _ wr).alloc (Nat.le_refl _) _
      have hFW : FieldAt (wr.alloc (.cells (rowV [x, 1] []) 5)) b := by
        have e1 := HB.out.block b (Array.getElem?_eq_some_iff.1 HF.out).1
        have hlt := (Array.getElem?_eq_some_iff.1 (e1.trans HF.out)).1
        exact (hbw2.block b hlt).trans (e1.trans HF.out)
      refine (callsIn_wide.2 (pmul_any b A1 (some ⟨wr.heap.size, 0, none⟩) m 2 c1 2 (rtTo rs k) [x, 1] HM.out rfl HC1.out (Nat.le_refl _) (by have := HLN.out; omega) (by omega) _ hFW (HRR.out.below hbw2) (RdB.row (rest := []) (Blk.new wr _ _)))).mono ?_
      rintro e w2 ⟨v2, rfl, hv2, hb3⟩
      rw [HST.out] at hv2
      have HB3 := Lib.hid (HB.out.trans (((hbw2).trans (hb3.mono hbw2.size)).mono HB.out.size))
      have HV := Lib.hid (hv2.lower (B' := w.heap.size) (Nat.le_trans HB.out.size hbw2.size))
      clear hbw2 hFW hv2 hb3
      gi_wp2
      go_roundw
      case rel => exact ⟨k + 1, by omega, by go_num, HV.out, HB3.out⟩
      case measure => simp [intOf]; omega
    · obtain rfl : k = n := by omega
      rw [HR.out] at hfr
      have HFR := Lib.hid hfr
      clear hfr hbw
      gi_wp2
      exact ⟨_, by simp [results, Try.results35, go_sem], _, rfl, HFR.out, HB.out⟩

/-- The inverse of an element. -/
def gi (x : UInt8) : UInt8 := UInt8.ofNat (gdivN 1 x.toNat)
theorem gi_toNat (x : UInt8) : (gi x).toNat = gdivN 1 x.toNat := by unfold gi; rw [UInt8.toNat_ofNat']; exact Nat.mod_eq_of_lt (gdivN_lt _ _)
theorem gm_gi {x : UInt8} (h : x ≠ 0) : gm x (gi x) = 1 := by
  rw [gm_comm]
  apply UInt8.toNat_inj.1
  rw [gm_toNat, gi_toNat, gdivN_mul _ _ (by omega) x.toNat_lt (fun e => h (UInt8.toNat_inj.1 e))]
  rfl
theorem finv_any (b : Nat) (y : UInt8) (h : y ≠ 0) (w : World) (hF : FieldAt w b) :
    Calls Try.prog 37 #[.pointer (some ⟨b, 0, none⟩), .int .u8 (y.toNat : Int)] w fun e w' => e = .returned (.tuple #[.int .u8 ((gi y).toNat : Int), .int .i64 0]) ∧ ∃ k, w' = w.drewN k := by
  rw [gi_toNat]
  exact inv_any b _ y.toNat rfl y.toNat_lt (fun e => h (UInt8.toNat_inj.1 e)) w hF
end Go.Proofs.Ytdgflbbffimpkaa
