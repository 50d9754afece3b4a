/- Several texts in one: RawV RawM BitM2 BitQ RawX BitL RawT RawT2 RawT3 RawT4 RawT5. -/
import Derived.Test.YtckhkagkpldoiaaRwX
import Derived.Test.YtckhkagkpldoiaaBtX
import Derived.Deep.QuietTactic
import Derived.BigQuiet
import Derived.Test.YtckhkagkpldoiaaOwX
import Derived.Deep.WholeRow
import Derived.Sort.CutIn
namespace Go.Proofs.Ytckhkagkpldoiaa
open Go.RowKit

theorem alRaw : ∀ w : World, (Instr.alloc 41 true (.tuple #[])).run Try.prog w = .ok (.pointer (some ⟨w.heap.size, 0, none⟩)) (w.alloc (.cells (rawV zero72) 41)) := fun _ => by kernel_rfl
end Go.Proofs.Ytckhkagkpldoiaa
namespace Go.Proofs.Ytckhkagkpldoiaa
open Go.RowKit

theorem place_of {mode : Int} (h : mode = 1 ∨ mode = 2) {i : Nat} (hi : i < 72) : i / chN mode < wdN mode ∧ i % chN mode < chN mode ∧ chN mode * (i / chN mode) + i % chN mode = i := by
  have hn : 0 < chN mode := by rcases h with rfl | rfl <;> decide
  refine ⟨?_, Nat.mod_lt _ hn, Nat.div_add_mod _ _⟩
  rcases h with rfl | rfl
  · show i / 9 < 8; omega
  · show i / 36 < 2; omega
/-- Whose chip each byte is. -/
theorem chipB_get {mode : Int} (h : mode = 1 ∨ mode = 2) {xs : List UInt8} (hx : xs.length = 72) {c : Nat} (hc : c < chN mode) (v : UInt8) {i : Nat} (hi : i < 72) : (chipB mode xs (c : Int) v).getD i 0 = if i % chN mode = c then v else xs.getD i 0 := by
  have hof : ofL mode (c : Int) = (List.range (wdN mode)).map (fun w => chN mode * w + c) := by rw [ofL_in ⟨by omega, by omega⟩, Int.toNat_natCast]
  obtain ⟨p1, p2, p3⟩ := place_of h hi
  have key : ∀ k, k ≤ wdN mode → (chipP mode xs (c : Int) v k).getD i 0 = if i % chN mode = c ∧ i / chN mode < k then v else xs.getD i 0 := by
    intro k
    induction k with
    | zero => intro _; rw [if_neg (fun h => absurd h.2 (Nat.not_lt_zero _))]; rfl
    | succ k ih =>
      intro hk
      have hg : (ofL mode (c : Int))[k]? = some (chN mode * k + c) := by rw [hof, List.getElem?_map, List.getElem?_range (by omega)]; rfl
      rw [chipP_succ hg]
      have hl : (chipP mode xs (c : Int) v k).length = 72 := by rw [chipP_len, hx]
      have hlt := of_lt hg
      rw [List.getD_eq_getElem?_getD, List.getElem?_set]
      have e1 : (chN mode * k + c) % chN mode = c := by rw [Nat.mul_add_mod, Nat.mod_eq_of_lt hc]
      have e2 : (chN mode * k + c) / chN mode = k := by rw [Nat.mul_add_div (by omega), Nat.div_eq_of_lt hc, Nat.add_zero]
      by_cases e : chN mode * k + c = i
      · subst e
        rw [if_pos rfl, if_pos (by omega), if_pos ⟨e1, by omega⟩]; rfl
      · rw [if_neg e, ← List.getD_eq_getElem?_getD, ih (by omega)]
        have hne : ¬ (i % chN mode = c ∧ i / chN mode = k) := fun ⟨h1, h2⟩ => by rw [h1, h2] at p3; exact e p3
        congr 1
        refine propext ⟨fun h => ⟨h.1, by omega⟩, fun h => ⟨h.1, ?_⟩⟩
        have := h.2
        omega
  unfold chipB
  rw [hof, List.length_map, List.length_range, key _ (Nat.le_refl _)]
  congr 1
  exact propext ⟨fun h => h.1, fun h => ⟨h, p1⟩⟩
theorem chipB_out {mode chip : Int} (h : ¬ (0 ≤ chip ∧ chip < chN mode)) (xs : List UInt8) (v : UInt8) : chipB mode xs chip v = xs := by
  unfold chipB chipP
  rw [ofL_out h]
  rfl
theorem chipB_len {mode chip : Int} {xs : List UInt8} {v : UInt8} (h : xs.length = 72) : (chipB mode xs chip v).length = 72 := by unfold chipB; rw [chipP_len, h]
end Go.Proofs.Ytckhkagkpldoiaa
namespace Go.Proofs.Ytckhkagkpldoiaa
end Go.Proofs.Ytckhkagkpldoiaa
namespace Go.Proofs.Ytckhkagkpldoiaa
open Go.RowKit

end Go.Proofs.Ytckhkagkpldoiaa
namespace Go.Proofs.Ytckhkagkpldoiaa
open Go.RowKit Go.Shelf
attribute [local go_sem] Oper.semAt_some

end Go.Proofs.Ytckhkagkpldoiaa
namespace Go.Proofs.Ytckhkagkpldoiaa
open Go.RowKit

/-- The lowest bit of an int. -/
def lowI (a : Int) : Nat := (a % 2).toNat
theorem i64_and1L (a : Int) : bits .and .i64 a 1 = (lowI a : Int) := by
  show IntKind.i64.wrap ((BitVec.ofInt 64 a &&& BitVec.ofInt 64 1).toNat : Int) = _
  have h1 : (BitVec.ofInt 64 1).toNat = 1 := rfl
  rw [BitVec.toNat_and, h1, Nat.and_one_is_mod, BitVec.toNat_ofInt, IntKind.wrap_i64]
  unfold lowI
  omega
/-- A bit forced. -/
def forceI (xs : List UInt8) (b v : Int) : List UInt8 := if bitI xs b = lowI v then xs else flipI xs b
theorem forceI_len (xs : List UInt8) (b v : Int) : (forceI xs b v).length = xs.length := by
  unfold forceI
  split
  · rfl
  · exact flipI_length xs b
end Go.Proofs.Ytckhkagkpldoiaa
namespace Go.Proofs.Ytckhkagkpldoiaa
open Go.RowKit Go.Shelf
attribute [local go_sem] Oper.semAt_some

set_option maxRecDepth 100000 in
set_option maxHeartbeats 1000000 in
theorem rflip_any (xs : List UInt8) (lx : xs.length = 72) (b : Int) (v0 : -9223372036854775808 ≤ b) (v1 : b ≤ 9223372036854775807) (w : World) :
    Calls Try.prog 52 #[.agg (rawV xs), .int .i64 b] w fun e w' => e = .returned (.agg (rawV (flipI xs b))) ∧ Below w.heap.size w w' := by
  have lf : (flipI xs b).length = 72 := by rw [flipI_length, lx]
  have HSN := Lib.hid (show (Try.prog.info? 41).map (·.size) = some (rawV (flipI xs b)).size by rw [rawV_size, lf]; exact infoRaw)
  have HNS := Lib.hid (show (rawV (flipI xs b)).size = (rawV zero72).size by rw [rawV_size, rawV_size, lf]; rfl)
  have HN1 := Lib.hid (rawV_one (flipI xs b))
  obtain ⟨nv, hnv⟩ : ∃ nv, rawV (flipI xs b) = nv := ⟨_, rfl⟩
  rw [hnv] at HSN HNS HN1 ⊢
  have HNV := Lib.hid hnv
  clear lf hnv
  by_cases hin : 0 ≤ b ∧ b < 576
  · obtain ⟨p, rfl⟩ := Int.eq_ofNat_of_zero_le hin.1
    have hp : p / 8 < 72 := by omega
    have hfl := flipI_in (xs := xs) (p := p) (by rw [lx]; exact hp)
    have m1 := i64_and7 p (by omega)
    obtain ⟨r, hr⟩ : ∃ r, p % 8 = r := ⟨_, rfl⟩
    have hrl : r < 8 := by omega
    rw [hr] at m1 hfl
    have i1 : (p : Int) / 8 < 72 := by omega
    have hset : (rawV xs).setIfInBounds (p / 8) (.int .u8 ((xs.getD (p / 8) 0 ^^^ UInt8.ofNat (2 ^ r)).toNat : Int)) = nv := by rw [rawV_set, ← hfl]; exact HNV.out
    have HSX := Lib.hid (show (Try.prog.info? 41).map (·.size) = some (rawV xs).size by rw [rawV_size, lx]; exact infoRaw)
    have HSZ := Lib.hid (show (Try.prog.info? 41).map (·.size) = some (rawV zero72).size by rw [rawV_size]; exact infoRaw)
    have HC1 := fun j (hj : j < 72) => rawV_get xs (i := j) (by rw [lx]; exact hj)
    obtain ⟨cv, hcv⟩ : ∃ cv, rawV xs = cv := ⟨_, rfl⟩
    rw [hcv] at HSX HC1 ⊢
    have HCV := Lib.hid hcv
    have HC := Lib.hid HC1
    have HLX := Lib.hid lx
    obtain ⟨b0, hb0⟩ : ∃ b0, w.heap.size = b0 := ⟨_, rfl⟩
    have HB0 := Lib.hid hb0
    have OW := Lib.hid (Own.start b0 w)
    have OZ := Lib.hid (And.intro hb0 (Nat.le_refl b0))
    clear hcv lx hb0 HC1
    have HSET := Lib.hid hset
    have e1 := HC.out (p / 8) hp
    obtain ⟨x, hx⟩ : ∃ x, xs.getD (p / 8) 0 = x := ⟨_, rfl⟩
    rw [hx] at e1 HSET
    have hz := u8_xorF x (UInt8.ofNat (2 ^ r))
    have e2 : ((UInt8.ofNat (2 ^ r)).toNat : Int) = (2 : Int) ^ r % 256 := by rw [UInt8.toNat_ofNat']; simp
    rw [e2] at hz
    have HZ := Lib.hid hz
    have HR := Lib.hid hr
    obtain ⟨n, hn⟩ : ∃ n, x.toNat = n := ⟨_, rfl⟩
    have lx8 := x.toNat_lt
    rw [hn] at e1 HZ lx8
    clear hx hz e2 hfl hr hn hset hin
    rw [HCV.out] at HSET
    have i3 : (p : Int) < 576 := by omega
    refine (callsIn_wide (n := 6)).1 ?_
    refine callsIn_of_wp_marks Try.func52 rfl trivial ?_ rfl
    simp only [Try.ntmps52, List.size_toArray, List.length_cons, List.length_nil, Nat.reduceAdd, Nat.reduceSub, Array.replicate_succ, Array.replicate_zero, List.push_toArray, List.append_toArray, List.nil_append, List.cons_append]
    gi_upto_region 1 with (first
      | (refine own_box 41 (.tmp 0) rfl rfl (.agg cv) rfl cv rfl OW OZ ?_; clear OW OZ; intro W OW OZ)
      | (refine own_alloc 41 rfl rfl _ alRaw OW OZ ?_; clear OW OZ; intro W OW OZ))
    have e1' := ((OW.out.blk (k := 0) rfl).cell (p / 8)).trans e1
    have f1 := (OW.out.blk (k := 0) rfl).frozen (p / 8)
    clear e1
    gi_upto_region 3 with fail
    refine own_setcN (k := 0) rfl OW OZ ?_
    clear OW OZ e1' f1
    intro W OW OZ
    rw [HZ.out, HSET.out] at OW
    gi_wp2_with (first
      | (refine own_box 41 (.tmp 0) rfl rfl (.agg cv) rfl cv rfl OW OZ ?_; clear OW OZ; intro W OW OZ)
      | (refine own_alloc 41 rfl rfl _ alRaw OW OZ ?_; clear OW OZ; intro W OW OZ)
      | (refine own_loadRow 0 41 (.tmp 2) rfl rfl rfl rfl _ Try.underlying41 rfl HSN.out OW ?_)
      | (refine own_storeRow 1 41 (.tmp 4) (.tmp 21) rfl rfl rfl rfl nv rfl HNS.out HN1.out HSN.out _ rfl OW OZ ?_; clear OW OZ; intro W OW OZ))
    refine leaves_own [] _ (Nat.le_of_eq HB0.out) (by simpa using OW.out) ?_
    intro W' hO
    exact ⟨_, results_ownRow hO 1 rfl rfl rfl Try.underlying41 rfl HSN.out, rfl, hO.done HB0⟩
  · have HE := Lib.hid (show flipI xs b = xs from flipI_out (by rw [lx]; omega))
    have HSX := Lib.hid (show (Try.prog.info? 41).map (·.size) = some (rawV xs).size by rw [rawV_size, lx]; exact infoRaw)
    have HSZ := Lib.hid (show (Try.prog.info? 41).map (·.size) = some (rawV zero72).size by rw [rawV_size]; exact infoRaw)
    have HC1 := fun j (hj : j < 72) => rawV_get xs (i := j) (by rw [lx]; exact hj)
    obtain ⟨cv, hcv⟩ : ∃ cv, rawV xs = cv := ⟨_, rfl⟩
    rw [hcv] at HSX HC1 ⊢
    have HCV := Lib.hid hcv
    have HC := Lib.hid HC1
    have HLX := Lib.hid lx
    obtain ⟨b0, hb0⟩ : ∃ b0, w.heap.size = b0 := ⟨_, rfl⟩
    have HB0 := Lib.hid hb0
    have OW := Lib.hid (Own.start b0 w)
    have OZ := Lib.hid (And.intro hb0 (Nat.le_refl b0))
    clear hcv lx hb0 HC1
    have HNC := Lib.hid (show cv = nv by rw [← HNV.out, ← HCV.out, HE.out])
    rw [HNC.out]
    rw [HNC.out] at HSX
    clear HC HCV
    obtain ⟨cv, hcv⟩ : ∃ cv, nv = cv := ⟨_, rfl⟩
    subst hcv
    by_cases h0 : 0 ≤ b
    · have h1 : 576 ≤ b := by omega
      clear hin
      refine (callsIn_wide (n := 6)).1 ?_
      refine callsIn_of_wp_marks Try.func52 rfl trivial ?_ rfl
      simp only [Try.ntmps52, List.size_toArray, List.length_cons, List.length_nil, Nat.reduceAdd, Nat.reduceSub, Array.replicate_succ, Array.replicate_zero, List.push_toArray, List.append_toArray, List.nil_append, List.cons_append]
      gi_wp2_with (first
        | (refine own_box 41 (.tmp 0) rfl rfl (.agg nv) rfl nv rfl OW OZ ?_; clear OW OZ; intro W OW OZ)
        | (refine own_alloc 41 rfl rfl _ alRaw OW OZ ?_; clear OW OZ; intro W OW OZ)
        | (refine own_loadRow 0 41 (.tmp 2) rfl rfl rfl rfl _ Try.underlying41 rfl HSN.out OW ?_)
        | (refine own_storeRow 1 41 (.tmp 4) (.tmp 21) rfl rfl rfl rfl nv rfl HNS.out HN1.out HSN.out _ rfl OW OZ ?_; clear OW OZ; intro W OW OZ))
      refine leaves_own [] _ (Nat.le_of_eq HB0.out) (by simpa using OW.out) ?_
      intro W' hO
      exact ⟨_, results_ownRow hO 1 rfl rfl rfl Try.underlying41 rfl HSN.out, rfl, hO.done HB0⟩
    · clear hin
      refine (callsIn_wide (n := 6)).1 ?_
      refine callsIn_of_wp_marks Try.func52 rfl trivial ?_ rfl
      simp only [Try.ntmps52, List.size_toArray, List.length_cons, List.length_nil, Nat.reduceAdd, Nat.reduceSub, Array.replicate_succ, Array.replicate_zero, List.push_toArray, List.append_toArray, List.nil_append, List.cons_append]
      gi_wp2_with (first
        | (refine own_box 41 (.tmp 0) rfl rfl (.agg nv) rfl nv rfl OW OZ ?_; clear OW OZ; intro W OW OZ)
        | (refine own_alloc 41 rfl rfl _ alRaw OW OZ ?_; clear OW OZ; intro W OW OZ)
        | (refine own_loadRow 0 41 (.tmp 2) rfl rfl rfl rfl _ Try.underlying41 rfl HSN.out OW ?_)
        | (refine own_storeRow 1 41 (.tmp 4) (.tmp 21) rfl rfl rfl rfl nv rfl HNS.out HN1.out HSN.out _ rfl OW OZ ?_; clear OW OZ; intro W OW OZ))
      refine leaves_own [] _ (Nat.le_of_eq HB0.out) (by simpa using OW.out) ?_
      intro W' hO
      exact ⟨_, results_ownRow hO 1 rfl rfl rfl Try.underlying41 rfl HSN.out, rfl, hO.done HB0⟩
end Go.Proofs.Ytckhkagkpldoiaa
namespace Go.Proofs.Ytckhkagkpldoiaa
open Go.RowKit Go.Shelf
attribute [local go_sem] Oper.semAt_some

theorem infoRaw2 : (Try.prog.info? 40).map (·.size) = some 72 := by kernel_rfl
set_option maxRecDepth 100000 in
set_option maxHeartbeats 1000000 in
theorem rforce_any (xs : List UInt8) (lx : xs.length = 72) (b v : Int) (v0 : -9223372036854775808 ≤ b) (v1 : b ≤ 9223372036854775807) (w : World) :
    Calls Try.prog 66 #[.agg (rawV xs), .int .i64 b, .int .i64 v] w fun e w' => e = .returned (.agg (rawV (forceI xs b v))) ∧ Below w.heap.size w w' := by
  have HFL := Lib.hid (fun W => rflip_any xs lx b v0 v1 W)
  have HGT := Lib.hid (fun A W h => get_any A 72 72 xs lx b v0 v1 W h)
  have m1 := i64_and1L v
  by_cases hb : bitI xs b = lowI v
  · have HE := Lib.hid (show forceI xs b v = xs from if_pos hb)
    rw [HE.out]
    rw [hb] at HGT
    obtain ⟨L, hL⟩ : ∃ L, lowI v = L := ⟨_, rfl⟩
    rw [hL] at m1 HGT
    clear hb hL
    have HSX := Lib.hid (show (Try.prog.info? 41).map (·.size) = some (rawV xs).size by rw [rawV_size, lx]; exact infoRaw)
    have HSX2 := Lib.hid (show (Try.prog.info? 40).map (·.size) = some (rawV xs).size by rw [rawV_size, lx]; exact infoRaw2)
    have HC1 := fun j (hj : j < 72) => rawV_get xs (i := j) (by rw [lx]; exact hj)
    obtain ⟨cv, hcv⟩ : ∃ cv, rawV xs = cv := ⟨_, rfl⟩
    rw [hcv] at HSX HSX2 HC1 ⊢
    have HCV := Lib.hid hcv
    have HC := Lib.hid HC1
    have HLX := Lib.hid lx
    obtain ⟨b0, hb0⟩ : ∃ b0, w.heap.size = b0 := ⟨_, rfl⟩
    have HB0 := Lib.hid hb0
    have OW := Lib.hid (Own.start b0 w)
    have OZ := Lib.hid (And.intro hb0 (Nat.le_refl b0))
    clear hcv lx hb0 HC1
    have HNS := Lib.hid (show cv.size = (rawV zero72).size by rw [← HCV.out, rawV_size, rawV_size, HLX.out]; rfl)
    have HN1 := Lib.hid (show cv.all (·.oneCell') = true by rw [← HCV.out]; exact rawV_one xs)
    have hsl := rawSlice_all b0
    refine (callsIn_wide (n := 6)).1 ?_
    refine callsIn_of_wp_marks Try.func66 rfl trivial ?_ rfl
    simp only [Try.ntmps66, List.size_toArray, List.length_cons, List.length_nil, Nat.reduceAdd, Nat.reduceSub, Array.replicate_succ, Array.replicate_zero, List.push_toArray, List.append_toArray, List.nil_append, List.cons_append]
    gi_wp2_with (first
      | (refine own_box 41 (.tmp 0) rfl rfl (.agg cv) rfl cv rfl OW OZ ?_; clear OW OZ; intro W OW OZ)
      | (refine own_alloc 41 rfl rfl _ alRaw OW OZ ?_; clear OW OZ; intro W OW OZ))
    refine ⟨trivial, ?_⟩
    refine (callsIn_wide.2 (HGT.out _ _ (RdB.ofBlk (OW.out.blk (k := 0) rfl) (fun k hk => HC.out k (by rw [HLX.out] at hk; exact hk))))).mono ?_
    rintro e W1 ⟨rfl, rfl⟩
    gi_wp2_with (first
      | (refine own_loadRow 0 41 (.tmp 3) rfl rfl rfl rfl _ Try.underlying41 rfl HSX.out OW ?_)
      | (refine own_storeRow 1 41 (.tmp 6) (.tmp 16) rfl rfl rfl rfl cv rfl HNS.out HN1.out HSX.out _ rfl OW OZ ?_; clear OW OZ; intro W OW OZ))
    refine leaves_own [] _ (Nat.le_of_eq HB0.out) (by simpa using OW.out) ?_
    intro W' hO
    exact ⟨_, results_ownRow hO 1 rfl rfl rfl Try.underlying41 rfl HSX.out, rfl, hO.done HB0⟩
  · have HE := Lib.hid (show forceI xs b v = flipI xs b from if_neg hb)
    rw [HE.out]
    have lf : (flipI xs b).length = 72 := by rw [flipI_length, lx]
    have HSN := Lib.hid (show (Try.prog.info? 41).map (·.size) = some (rawV (flipI xs b)).size by rw [rawV_size, lf]; exact infoRaw)
    have HSN2 := Lib.hid (show (Try.prog.info? 40).map (·.size) = some (rawV (flipI xs b)).size by rw [rawV_size, lf]; exact infoRaw2)
    have HNS := Lib.hid (show (rawV (flipI xs b)).size = (rawV zero72).size by rw [rawV_size, rawV_size, lf]; rfl)
    have HN1 := Lib.hid (rawV_one (flipI xs b))
    obtain ⟨nv, hnv⟩ : ∃ nv, rawV (flipI xs b) = nv := ⟨_, rfl⟩
    rw [hnv] at HSN HSN2 HNS HN1 ⊢
    have HNV := Lib.hid hnv
    clear lf hnv
    rw [HNV.out] at HFL
    obtain ⟨L, hL⟩ : ∃ L, lowI v = L := ⟨_, rfl⟩
    obtain ⟨M, hM⟩ : ∃ L, bitI xs b = L := ⟨_, rfl⟩
    rw [hL] at m1 hb
    rw [hM] at HGT hb
    have q1 : ((M : Int) != (L : Int)) = true := by rw [bne_iff_ne]; omega
    clear hb hL hM
    have HSX := Lib.hid (show (Try.prog.info? 41).map (·.size) = some (rawV xs).size by rw [rawV_size, lx]; exact infoRaw)
    have HSX2 := Lib.hid (show (Try.prog.info? 40).map (·.size) = some (rawV xs).size by rw [rawV_size, lx]; exact infoRaw2)
    have HC1 := fun j (hj : j < 72) => rawV_get xs (i := j) (by rw [lx]; exact hj)
    obtain ⟨cv, hcv⟩ : ∃ cv, rawV xs = cv := ⟨_, rfl⟩
    rw [hcv] at HSX HSX2 HC1 ⊢
    have HCV := Lib.hid hcv
    have HC := Lib.hid HC1
    have HLX := Lib.hid lx
    obtain ⟨b0, hb0⟩ : ∃ b0, w.heap.size = b0 := ⟨_, rfl⟩
    have HB0 := Lib.hid hb0
    have OW := Lib.hid (Own.start b0 w)
    have OZ := Lib.hid (And.intro hb0 (Nat.le_refl b0))
    clear hcv lx hb0 HC1
    rw [HCV.out] at HFL
    have hsl := rawSlice_all b0
    refine (callsIn_wide (n := 6)).1 ?_
    refine callsIn_of_wp_marks Try.func66 rfl trivial ?_ rfl
    simp only [Try.ntmps66, List.size_toArray, List.length_cons, List.length_nil, Nat.reduceAdd, Nat.reduceSub, Array.replicate_succ, Array.replicate_zero, List.push_toArray, List.append_toArray, List.nil_append, List.cons_append]
    gi_wp2_with (first
      | (refine own_box 41 (.tmp 0) rfl rfl (.agg cv) rfl cv rfl OW OZ ?_; clear OW OZ; intro W OW OZ)
      | (refine own_alloc 41 rfl rfl _ alRaw OW OZ ?_; clear OW OZ; intro W OW OZ))
    refine ⟨trivial, ?_⟩
    refine (callsIn_wide.2 (HGT.out _ _ (RdB.ofBlk (OW.out.blk (k := 0) rfl) (fun k hk => HC.out k (by rw [HLX.out] at hk; exact hk))))).mono ?_
    rintro e W1 ⟨rfl, rfl⟩
    gi_wp2_with (first
      | (refine own_loadRow 0 41 (.tmp 3) rfl rfl rfl rfl _ Try.underlying41 rfl HSX.out OW ?_))
    refine ⟨trivial, ?_⟩
    refine (callsIn_wide.2 (HFL.out _)).mono ?_
    rintro e W2 ⟨rfl, hbw⟩
    obtain ⟨g1, OW2, OZ2⟩ := own_call OW OZ hbw
    clear hbw OW OZ
    have OW := OW2
    have OZ := OZ2
    clear OW2 OZ2
    gi_wp2_with (first
      | (refine own_storeRow 1 41 (.tmp 6) (.tmp 15) rfl rfl rfl rfl nv rfl HNS.out HN1.out HSN.out _ rfl OW OZ ?_; clear OW OZ; intro W OW OZ))
    refine leaves_own [] _ (Nat.le_of_eq HB0.out) (by simpa using OW.out) ?_
    intro W' hO
    exact ⟨_, results_ownRow hO 1 rfl rfl rfl Try.underlying41 rfl HSN.out, rfl, hO.done HB0⟩
end Go.Proofs.Ytckhkagkpldoiaa
namespace Go.Proofs.Ytckhkagkpldoiaa
open Go.RowKit Go.Shelf
attribute [local go_sem] Oper.semAt_some

theorem eq72 {xs ys : List UInt8} (hx : xs.length = 72) (hy : ys.length = 72) (h : ∀ i, i < 72 → xs.getD i 0 = ys.getD i 0) : xs = ys := by
  refine List.ext_getElem (by omega) fun i h1 h2 => ?_
  have h3 := h i (by omega)
  rwa [List.getD_eq_getElem?_getD, List.getD_eq_getElem?_getD, List.getElem?_eq_getElem h1, List.getElem?_eq_getElem h2] at h3
theorem set_getD {xs : List UInt8} {k : Nat} {v : UInt8} {i : Nat} (hk : k < xs.length) : (xs.set k v).getD i 0 = if i = k then v else xs.getD i 0 := by
  rw [List.getD_eq_getElem?_getD, List.getElem?_set]
  by_cases e : k = i
  · subst e; rw [if_pos rfl, if_pos hk, if_pos rfl]; rfl
  · rw [if_neg e, if_neg (Ne.symm e), ← List.getD_eq_getElem?_getD]
end Go.Proofs.Ytckhkagkpldoiaa
namespace Go.Proofs.Ytckhkagkpldoiaa
open Go.RowKit Go.Shelf
attribute [local go_sem] Oper.semAt_some

/-- Whose word and chip a bit is, and an error. -/
def whoseW (mode b : Int) : Nat := if 0 ≤ b ∧ b < 576 ∧ (mode = 1 ∨ mode = 2) then b.toNat / 8 / chN mode else 0
def whoseC (mode b : Int) : Nat := if 0 ≤ b ∧ b < 576 ∧ (mode = 1 ∨ mode = 2) then b.toNat / 8 % chN mode else 0
def whoseE (mode b : Int) : Nat := if 0 ≤ b ∧ b < 576 ∧ (mode = 1 ∨ mode = 2) then 0 else 12

set_option maxRecDepth 100000 in
set_option maxHeartbeats 1000000 in
theorem whose_any (mode b : Int) (v0 : -9223372036854775808 ≤ b) (v1 : b ≤ 9223372036854775807) (w : World) :
    Calls Try.prog 70 #[.int .i64 mode, .int .i64 b] w fun e w' => e = .returned (.tuple #[.int .i64 (whoseW mode b : Nat), .int .i64 (whoseC mode b : Nat), .int .i64 (whoseE mode b : Nat)]) ∧ Below w.heap.size w w' := by
  have HRI := Lib.hid (fun W => right_any mode W)
  have HCH := Lib.hid (fun W => chips_any mode W)
  by_cases hin : 0 ≤ b ∧ b < 576 ∧ (mode = 1 ∨ mode = 2)
  · have H1 := Lib.hid (show whoseW mode b = b.toNat / 8 / chN mode from if_pos hin)
    have H2 := Lib.hid (show whoseC mode b = b.toNat / 8 % chN mode from if_pos hin)
    have H3 := Lib.hid (show whoseE mode b = 0 from if_pos hin)
    obtain ⟨h0, h1, hm⟩ := hin
    obtain ⟨p, rfl⟩ := Int.eq_ofNat_of_zero_le h0
    have HM := Lib.hid hm
    rcases hm with rfl | rfl
    · rw [show chN 1 = 9 from rfl, show ((9 : Nat) : Int) = 9 from rfl] at HCH
      rw [show chN 1 = 9 from rfl] at H1 H2
      rw [show rightB 1 = true from rfl] at HRI
      refine (callsIn_wide (n := 6)).1 ?_
      refine callsIn_of_wp_marks Try.func70 rfl trivial ?_ rfl
      simp only [Try.ntmps70, List.size_toArray, List.length_cons, List.length_nil, Nat.reduceAdd, Nat.reduceSub, Array.replicate_succ, Array.replicate_zero, List.push_toArray, List.append_toArray, List.nil_append, List.cons_append]
      gi_wp2_with fail
      refine ⟨trivial, ?_⟩
      refine (callsIn_wide.2 (HRI.out _)).mono ?_
      rintro e W1 ⟨rfl, rfl⟩
      gi_wp2_with fail
      refine ⟨trivial, ?_⟩
      refine (callsIn_wide.2 (HCH.out _)).mono ?_
      rintro e W2 ⟨rfl, rfl⟩
      gi_upto_region 4 with fail
      refine wpIn_wide.2 ?_
      go_quiet (fail)
      gi_wp2
      refine leaves_own [] _ (Nat.le_of_eq rfl) (by simpa using (Own.start w.heap.size w).drewN nq) ?_
      intro W' hO
      exact ⟨.tuple #[.int .i64 ((p : Int) / 8 / 9), .int .i64 ((p : Int) / 8 % 9), .int .i64 0], by simp [results, Try.results70, go_sem], by rw [H1.out, H2.out, H3.out]; rfl, hO.done rfl⟩
    · rw [show chN 2 = 36 from rfl, show ((36 : Nat) : Int) = 36 from rfl] at HCH
      rw [show chN 2 = 36 from rfl] at H1 H2
      rw [show rightB 2 = true from rfl] at HRI
      refine (callsIn_wide (n := 6)).1 ?_
      refine callsIn_of_wp_marks Try.func70 rfl trivial ?_ rfl
      simp only [Try.ntmps70, List.size_toArray, List.length_cons, List.length_nil, Nat.reduceAdd, Nat.reduceSub, Array.replicate_succ, Array.replicate_zero, List.push_toArray, List.append_toArray, List.nil_append, List.cons_append]
      gi_wp2_with fail
      refine ⟨trivial, ?_⟩
      refine (callsIn_wide.2 (HRI.out _)).mono ?_
      rintro e W1 ⟨rfl, rfl⟩
      gi_wp2_with fail
      refine ⟨trivial, ?_⟩
      refine (callsIn_wide.2 (HCH.out _)).mono ?_
      rintro e W2 ⟨rfl, rfl⟩
      gi_upto_region 4 with fail
      refine wpIn_wide.2 ?_
      go_quiet (fail)
      gi_wp2
      refine leaves_own [] _ (Nat.le_of_eq rfl) (by simpa using (Own.start w.heap.size w).drewN nq) ?_
      intro W' hO
      exact ⟨.tuple #[.int .i64 ((p : Int) / 8 / 36), .int .i64 ((p : Int) / 8 % 36), .int .i64 0], by simp [results, Try.results70, go_sem], by rw [H1.out, H2.out, H3.out]; rfl, hO.done rfl⟩
  · have H1 := Lib.hid (show whoseW mode b = 0 from if_neg hin)
    have H2 := Lib.hid (show whoseC mode b = 0 from if_neg hin)
    have H3 := Lib.hid (show whoseE mode b = 12 from if_neg hin)
    by_cases hm : mode = 1 ∨ mode = 2
    · rw [show rightB mode = true by unfold rightB; rcases hm with rfl | rfl <;> rfl] at HRI
      by_cases h0 : 0 ≤ b
      · have h1 : 576 ≤ b := by omega
        clear hin hm HCH
        refine (callsIn_wide (n := 6)).1 ?_
        refine callsIn_of_wp_marks Try.func70 rfl trivial ?_ rfl
        simp only [Try.ntmps70, List.size_toArray, List.length_cons, List.length_nil, Nat.reduceAdd, Nat.reduceSub, Array.replicate_succ, Array.replicate_zero, List.push_toArray, List.append_toArray, List.nil_append, List.cons_append]
        gi_wp2_with fail
        refine ⟨trivial, ?_⟩
        refine (callsIn_wide.2 (HRI.out _)).mono ?_
        rintro e W1 ⟨rfl, rfl⟩
        gi_wp2
        refine leaves_own [] _ (Nat.le_of_eq rfl) (by simpa using Own.start w.heap.size w) ?_
        intro W' hO
        exact ⟨.tuple #[.int .i64 0, .int .i64 0, .int .i64 12], by simp [results, Try.results70, go_sem], by rw [H1.out, H2.out, H3.out]; rfl, hO.done rfl⟩
      · clear hin hm HCH
        refine (callsIn_wide (n := 6)).1 ?_
        refine callsIn_of_wp_marks Try.func70 rfl trivial ?_ rfl
        simp only [Try.ntmps70, List.size_toArray, List.length_cons, List.length_nil, Nat.reduceAdd, Nat.reduceSub, Array.replicate_succ, Array.replicate_zero, List.push_toArray, List.append_toArray, List.nil_append, List.cons_append]
        gi_wp2_with fail
        refine ⟨trivial, ?_⟩
        refine (callsIn_wide.2 (HRI.out _)).mono ?_
        rintro e W1 ⟨rfl, rfl⟩
        gi_wp2
        refine leaves_own [] _ (Nat.le_of_eq rfl) (by simpa using Own.start w.heap.size w) ?_
        intro W' hO
        exact ⟨.tuple #[.int .i64 0, .int .i64 0, .int .i64 12], by simp [results, Try.results70, go_sem], by rw [H1.out, H2.out, H3.out]; rfl, hO.done rfl⟩
    · rw [show rightB mode = false by unfold rightB; simp; omega] at HRI
      clear hin hm HCH
      refine (callsIn_wide (n := 6)).1 ?_
      refine callsIn_of_wp_marks Try.func70 rfl trivial ?_ rfl
      simp only [Try.ntmps70, List.size_toArray, List.length_cons, List.length_nil, Nat.reduceAdd, Nat.reduceSub, Array.replicate_succ, Array.replicate_zero, List.push_toArray, List.append_toArray, List.nil_append, List.cons_append]
      gi_wp2_with fail
      refine ⟨trivial, ?_⟩
      refine (callsIn_wide.2 (HRI.out _)).mono ?_
      rintro e W1 ⟨rfl, rfl⟩
      gi_wp2
      refine leaves_own [] _ (Nat.le_of_eq rfl) (by simpa using Own.start w.heap.size w) ?_
      intro W' hO
      exact ⟨.tuple #[.int .i64 0, .int .i64 0, .int .i64 12], by simp [results, Try.results70, go_sem], by rw [H1.out, H2.out, H3.out]; rfl, hO.done rfl⟩
end Go.Proofs.Ytckhkagkpldoiaa
namespace Go.Proofs.Ytckhkagkpldoiaa
open Go.RowKit Go.Shelf
attribute [local go_sem] Oper.semAt_some

theorem flip_get {xs : List UInt8} (lx : xs.length = 72) {p : Nat} (hp : p < 576) {i : Nat} : (flipI xs (p : Int)).getD i 0 = if i = p / 8 then xs.getD (p / 8) 0 ^^^ UInt8.ofNat (2 ^ (p % 8)) else xs.getD i 0 := by
  rw [flipI_in (by omega), set_getD (by omega)]
theorem force_out {xs : List UInt8} (lx : xs.length = 72) {b : Int} (h : ¬ (0 ≤ b ∧ b < 576)) (v : Int) : forceI xs b v = xs := by
  unfold forceI
  split
  · rfl
  · exact flipI_out (by rw [lx]; omega)
end Go.Proofs.Ytckhkagkpldoiaa
