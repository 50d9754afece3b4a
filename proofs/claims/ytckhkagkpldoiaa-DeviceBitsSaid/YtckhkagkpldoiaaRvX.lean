/- Several texts in one: RawV RawM BitM2 BitQ RawX BitL RawT RawT2 RawT3 RawT4 RawT5. -/
import Derived.Test.YtckhkagkpldoiaaRwX
import Derived.Test.YtckhkagkpldoiaaBtX
import Derived.Deep.QuietTactic
import Derived.BigQuiet
import Derived.Test.YtckhkagkpldoiaaOwX
import Derived.Deep.WholeRow
import Derived.Sort.CutIn
namespace Go.Proofs.Ytckhkagkpldoiaa
open Go.RowKit

theorem alRaw : ∀ w : World, (Instr.alloc 41 true (.tuple #[])).run Try.prog w = .ok (.pointer (some ⟨w.heap.size, 0, none⟩)) (w.alloc (.cells (rawV zero72) 41)) := fun _ => by kernel_rfl
end Go.Proofs.Ytckhkagkpldoiaa
namespace Go.Proofs.Ytckhkagkpldoiaa
open Go.RowKit

/-- What one pair of bytes costs. -/
def cst (mode : Int) (a b : UInt8) : Nat := if mode = 1 then pc (a ^^^ b).toNat else if a = b then 0 else 1
theorem pc_eq0 {n : Nat} (h : n < 2 ^ 64) : pc n = 0 ↔ n = 0 := by
  constructor
  · intro h0
    rcases Nat.eq_zero_or_pos n with h1 | h1
    · exact h1
    · have := pc_and_pred n h1 h
      omega
  · rintro rfl; exact pc_zero
theorem u8_xor_self (a : UInt8) : a ^^^ a = 0 := by
  apply UInt8.toNat_inj.1
  rw [UInt8.toNat_xor, Nat.xor_self]; rfl
theorem u8_xor_zero {a b : UInt8} (h : (a ^^^ b).toNat = 0) : a = b := by
  apply UInt8.toNat_inj.1
  rw [UInt8.toNat_xor] at h
  have h2 := congrArg (· ^^^ b.toNat) h
  simpa [Nat.xor_assoc] using h2
theorem cst_self (mode : Int) (a : UInt8) : cst mode a a = 0 := by
  unfold cst
  split
  · rw [u8_xor_self]; exact pc_zero
  · rw [if_pos rfl]
theorem cst_zero {mode : Int} {a b : UInt8} : cst mode a b = 0 ↔ a = b := by
  constructor
  · intro h
    unfold cst at h
    split at h
    · have := (a ^^^ b).toNat_lt
      exact u8_xor_zero ((pc_eq0 (by omega)).1 h)
    · split at h
      · assumption
      · omega
  · rintro rfl; exact cst_self _ _
theorem pc8_le {n : Nat} (h : n < 256) : pc n ≤ 8 := by
  have h1 : pc n = pcTo 8 n := (pcTo_eq 8 n (by omega) (by omega)).symm
  rw [h1]; exact pcTo_le 8 n
theorem cst_le (mode : Int) (a b : UInt8) : cst mode a b ≤ if mode = 1 then 8 else 1 := by
  unfold cst
  split
  · exact pc8_le (a ^^^ b).toNat_lt
  · split <;> omega

/-- A sum of the first n. -/
def sumN (f : Nat → Nat) : Nat → Nat
  | 0 => 0
  | k + 1 => sumN f k + f k
theorem sumN_congr {f g : Nat → Nat} : ∀ n, (∀ i, i < n → f i = g i) → sumN f n = sumN g n
  | 0, _ => rfl
  | n + 1, h => by rw [sumN, sumN, sumN_congr n (fun i hi => h i (by omega)), h n (by omega)]
theorem sumN_zero {f : Nat → Nat} : ∀ n, sumN f n = 0 ↔ ∀ i, i < n → f i = 0
  | 0 => ⟨fun _ i hi => by omega, fun _ => rfl⟩
  | n + 1 => by
    rw [sumN]
    constructor
    · intro h i hi
      by_cases e : i = n
      · subst e; omega
      · exact (sumN_zero n).1 (by omega) i (by omega)
    · intro h
      rw [(sumN_zero n).2 (fun i hi => h i (by omega)), h n (by omega)]
/-- What word k of two raw bytes costs. -/
def wC (mode : Int) (xs ys : List UInt8) (k : Nat) : Nat := sumN (fun j => cst mode (xs.getD (chN mode * k + j) 0) (ys.getD (chN mode * k + j) 0)) (chN mode)
theorem word_get {mode : Int} {xs : List UInt8} {k j : Nat} (hk : k < wdN mode) (hj : j < chN mode) : (wordB mode xs (k : Int)).getD j 0 = xs.getD (chN mode * k + j) 0 := by
  unfold wordB
  rw [if_pos (by omega), Int.toNat_natCast, List.getD_eq_getElem?_getD, List.getD_eq_getElem?_getD, List.getElem?_take_of_lt hj, List.getElem?_drop]
theorem dfB_sum (xs ys : List UInt8) (n : Nat) : dfB xs ys n = sumN (fun j => pc (xs.getD j 0 ^^^ ys.getD j 0).toNat) n := by
  induction n with
  | zero => rfl
  | succ n ih => rw [dfB, sumN, ih]
theorem ulB_sum (xs ys : List UInt8) (n : Nat) : ulB xs ys n = sumN (fun j => if xs.getD j 0 = ys.getD j 0 then 0 else 1) n := by
  induction n with
  | zero => rfl
  | succ n ih => rw [ulB, sumN, ih]
theorem ul_word {mode : Int} {xs ys : List UInt8} (hx : xs.length = 72) (hy : ys.length = 72) {k : Nat} (hk : k < wdN mode) : ul mode (wordB mode xs (k : Int)) (wordB mode ys (k : Int)) = wC mode xs ys k := by
  have h1 := word_len hx hk
  have h2 := word_len hy hk
  unfold ul wC cst
  by_cases hm : mode = 1
  · simp only [if_pos hm]
    unfold dI
    rw [h1, h2, Nat.max_self, Nat.min_self, Nat.sub_self, dfB_sum]
    simp only [Nat.mul_zero, Nat.zero_add]
    exact sumN_congr _ fun i hi => by rw [word_get hk hi, word_get hk hi]
  · simp only [if_neg hm]
    rw [h1, ulB_sum]
    exact sumN_congr _ fun i hi => by rw [word_get hk hi, word_get hk hi]
theorem exP_le_iff {mode : Int} {xs ys : List UInt8} {m : Nat} : ∀ k, exP mode xs ys k ≤ m ↔ ∀ i, i < k → ul mode (wordB mode xs (i : Int)) (wordB mode ys (i : Int)) ≤ m
  | 0 => ⟨fun _ i hi => by omega, fun _ => Nat.zero_le _⟩
  | k + 1 => by
    rw [exP]
    constructor
    · intro h i hi
      by_cases e : i = k
      · subst e; omega
      · exact (exP_le_iff k).1 (by omega) i (by omega)
    · intro h
      have h1 := (exP_le_iff k).2 (fun i hi => h i (by omega))
      have h2 := h k (by omega)
      omega
theorem expo_le_iff {mode : Int} {xs ys : List UInt8} (hx : xs.length = 72) (hy : ys.length = 72) {m : Nat} : expo mode xs ys ≤ m ↔ ∀ i, i < wdN mode → wC mode xs ys i ≤ m := by
  unfold expo
  rw [exP_le_iff]
  exact ⟨fun h i hi => by rw [← ul_word hx hy hi]; exact h i hi, fun h i hi => by rw [ul_word hx hy hi]; exact h i hi⟩
theorem wC_le_expo {mode : Int} {xs ys : List UInt8} (hx : xs.length = 72) (hy : ys.length = 72) {i : Nat} (hi : i < wdN mode) : wC mode xs ys i ≤ expo mode xs ys := (expo_le_iff hx hy).1 (Nat.le_refl _) i hi
theorem place_of {mode : Int} (h : mode = 1 ∨ mode = 2) {i : Nat} (hi : i < 72) : i / chN mode < wdN mode ∧ i % chN mode < chN mode ∧ chN mode * (i / chN mode) + i % chN mode = i := by
  have hn : 0 < chN mode := by rcases h with rfl | rfl <;> decide
  refine ⟨?_, Nat.mod_lt _ hn, Nat.div_add_mod _ _⟩
  rcases h with rfl | rfl
  · show i / 9 < 8; omega
  · show i / 36 < 2; omega
theorem expo_zero {mode : Int} (h : mode = 1 ∨ mode = 2) {xs ys : List UInt8} (hx : xs.length = 72) (hy : ys.length = 72) : expo mode xs ys = 0 ↔ xs = ys := by
  constructor
  · intro h0
    refine List.ext_getElem (by omega) fun i h1 h2 => ?_
    obtain ⟨p1, p2, p3⟩ := place_of h (show i < 72 by omega)
    have h3 := wC_le_expo hx hy p1
    have h4 := (sumN_zero _).1 (show wC mode xs ys (i / chN mode) = 0 by omega) _ p2
    rw [p3, cst_zero, List.getD_eq_getElem?_getD, List.getD_eq_getElem?_getD, List.getElem?_eq_getElem h1, List.getElem?_eq_getElem h2] at h4
    exact h4
  · rintro rfl
    have := (expo_le_iff (mode := mode) hx hx (m := 0)).2 fun i _ => Nat.le_of_eq ((sumN_zero _).2 fun _ _ => cst_self _ _)
    omega
theorem expo_none {mode : Int} (h1 : mode ≠ 1) (h2 : mode ≠ 2) (xs ys : List UInt8) : expo mode xs ys = 0 := by
  unfold expo
  rw [show wdN mode = 0 by unfold wdN; rw [if_neg h1, if_neg h2]]
  rfl

/-- Whose chip each byte is. -/
theorem chipB_get {mode : Int} (h : mode = 1 ∨ mode = 2) {xs : List UInt8} (hx : xs.length = 72) {c : Nat} (hc : c < chN mode) (v : UInt8) {i : Nat} (hi : i < 72) : (chipB mode xs (c : Int) v).getD i 0 = if i % chN mode = c then v else xs.getD i 0 := by
  have hof : ofL mode (c : Int) = (List.range (wdN mode)).map (fun w => chN mode * w + c) := by rw [ofL_in ⟨by omega, by omega⟩, Int.toNat_natCast]
  obtain ⟨p1, p2, p3⟩ := place_of h hi
  have key : ∀ k, k ≤ wdN mode → (chipP mode xs (c : Int) v k).getD i 0 = if i % chN mode = c ∧ i / chN mode < k then v else xs.getD i 0 := by
    intro k
    induction k with
    | zero => intro _; rw [if_neg (fun h => absurd h.2 (Nat.not_lt_zero _))]; rfl
    | succ k ih =>
      intro hk
      have hg : (ofL mode (c : Int))[k]? = some (chN mode * k + c) := by rw [hof, List.getElem?_map, List.getElem?_range (by omega)]; rfl
      rw [chipP_succ hg]
      have hl : (chipP mode xs (c : Int) v k).length = 72 := by rw [chipP_len, hx]
      have hlt := of_lt hg
      rw [List.getD_eq_getElem?_getD, List.getElem?_set]
      have e1 : (chN mode * k + c) % chN mode = c := by rw [Nat.mul_add_mod, Nat.mod_eq_of_lt hc]
      have e2 : (chN mode * k + c) / chN mode = k := by rw [Nat.mul_add_div (by omega), Nat.div_eq_of_lt hc, Nat.add_zero]
      by_cases e : chN mode * k + c = i
      · subst e
        rw [if_pos rfl, if_pos (by omega), if_pos ⟨e1, by omega⟩]; rfl
      · rw [if_neg e, ← List.getD_eq_getElem?_getD, ih (by omega)]
        have hne : ¬ (i % chN mode = c ∧ i / chN mode = k) := fun ⟨h1, h2⟩ => by rw [h1, h2] at p3; exact e p3
        congr 1
        refine propext ⟨fun h => ⟨h.1, by omega⟩, fun h => ⟨h.1, ?_⟩⟩
        have := h.2
        omega
  unfold chipB
  rw [hof, List.length_map, List.length_range, key _ (Nat.le_refl _)]
  congr 1
  exact propext ⟨fun h => h.1, fun h => ⟨h, p1⟩⟩
theorem chipB_out {mode chip : Int} (h : ¬ (0 ≤ chip ∧ chip < chN mode)) (xs : List UInt8) (v : UInt8) : chipB mode xs chip v = xs := by
  unfold chipB chipP
  rw [ofL_out h]
  rfl
theorem chipB_len {mode chip : Int} {xs : List UInt8} {v : UInt8} (h : xs.length = 72) : (chipB mode xs chip v).length = 72 := by unfold chipB; rw [chipP_len, h]
end Go.Proofs.Ytckhkagkpldoiaa
namespace Go.Proofs.Ytckhkagkpldoiaa
end Go.Proofs.Ytckhkagkpldoiaa
namespace Go.Proofs.Ytckhkagkpldoiaa
open Go.RowKit

/-- The reference's weight. -/
theorem refWeight (a : Int) (x : Nat) (hx : a = x) (lx : x < 18446744073709551616) (w : World) :
    Calls Try.prog 71 #[.int .u64 a] w fun e w' => e = .returned (.int .i64 (pc x : Nat)) ∧ w = w' := by
  subst hx
  go_enter Try.func71, Try.ntmps71
  go_wp2
  go_loop [0, 3] (fun y n => ∃ z c : Nat, z < 18446744073709551616 ∧ y = .int .u64 z ∧ n = .int .i64 c ∧ c + pc z = pc x) (fun y _ => (intOf y).toNat)
  case atStart => exact ⟨x, 0, lx, rfl, rfl, by omega⟩
  case round =>
    obtain ⟨z, c, lz, rfl, rfl, hs⟩ := hrel
    have hc : c ≤ 64 := by have := pc_le x; omega
    have HS := Lib.hid hs
    clear hs
    by_cases h0 : z = 0
    · subst h0
      go_wp2
      go_ret
      exact ⟨ret_intB (by have h1 := HS.out; rw [pc_zero] at h1; omega), rfl⟩
    · have hp := pc_step z lz
      have HP := Lib.hid hp
      have l1 : 0 < z := by omega
      clear hp
      go_wp2
      go_round
      case rel => exact ⟨z / 2, c + z % 2, by omega, by go_num, by go_num, by have := HS.out; have := HP.out; omega⟩
      case measure => simp [intOf]; omega
end Go.Proofs.Ytckhkagkpldoiaa
namespace Go.Proofs.Ytckhkagkpldoiaa
open Go.RowKit Go.Shelf
attribute [local go_sem] Oper.semAt_some

theorem exP_small (mode : Int) (xs ys : List UInt8) (k : Nat) : exP mode xs ys k ≤ 64 * 36 := exP_le mode xs ys k
theorem sumN_le' (mode : Int) (f g : Nat → UInt8) (n : Nat) : sumN (fun j => cst mode (f j) (g j)) n ≤ 64 * n := by
  induction n with
  | zero => exact Nat.le_refl _
  | succ n ih =>
    rw [sumN]
    have h1 := cst_le mode (f n) (g n)
    have : cst mode (f n) (g n) ≤ 8 := by split at h1 <;> omega
    omega
set_option maxRecDepth 100000 in
set_option maxHeartbeats 1000000 in
theorem refExp_any (mode : Int) (xs ys : List UInt8) (lx : xs.length = 72) (ly : ys.length = 72) (w : World) :
    Calls Try.prog 29 #[.int .i64 mode, .agg (rawV xs), .agg (rawV ys)] w fun e w' => e = .returned (.int .i64 (expo mode xs ys : Nat)) ∧ Below w.heap.size w w' := by
  have HRC := Lib.hid (fun W => refChips_any mode W)
  have HC1 := fun j (hj : j < 72) => rawV_get xs (i := j) (by rw [lx]; exact hj)
  have HC2 := fun j (hj : j < 72) => rawV_get ys (i := j) (by rw [ly]; exact hj)
  obtain ⟨cx, hcx⟩ : ∃ cv, rawV xs = cv := ⟨_, rfl⟩
  obtain ⟨cy, hcy⟩ : ∃ cv, rawV ys = cv := ⟨_, rfl⟩
  rw [hcx] at HC1 ⊢
  rw [hcy] at HC2 ⊢
  have HC := Lib.hid (And.intro HC1 HC2)
  have HLX := Lib.hid (And.intro lx ly)
  obtain ⟨b0, hb0⟩ : ∃ b0, w.heap.size = b0 := ⟨_, rfl⟩
  have HB0 := Lib.hid hb0
  have OW := Lib.hid (Own.start b0 w)
  have OZ := Lib.hid (And.intro hb0 (Nat.le_refl b0))
  clear hcx hcy lx ly hb0 HC1 HC2
  rcases modes mode with rfl | rfl | ⟨h1, h2⟩
  · rw [show chN 1 = 9 from rfl, show ((9 : Nat) : Int) = 9 from rfl] at HRC
    refine (callsIn_wide (n := 6)).1 ?_
    refine callsIn_of_wp_marks Try.func29 rfl trivial ?_ rfl
    simp only [Try.ntmps29, List.size_toArray, List.length_cons, List.length_nil, Nat.reduceAdd, Nat.reduceSub, Array.replicate_succ, Array.replicate_zero, List.push_toArray, List.append_toArray, List.nil_append, List.cons_append]
    gi_wp2_with (first
      | (refine own_box 40 (.tmp 1) rfl rfl (.agg cx) rfl cx rfl OW OZ ?_; clear OW OZ; intro W OW OZ)
      | (refine own_box 40 (.tmp 2) rfl rfl (.agg cy) rfl cy rfl OW OZ ?_; clear OW OZ; intro W OW OZ))
    refine ⟨trivial, ?_⟩
    refine (callsIn_wide.2 (HRC.out _)).mono ?_
    rintro e W1 ⟨rfl, rfl⟩
    gi_wp2
    gi_loopw [8, 9] (fun m i wr => ∃ k : Nat, k ≤ 8 ∧ i = .int .i64 k ∧ m = .int .i64 ((exP 1 xs ys k : Nat) : Int) ∧ Own b0 w [cellsO b0 40 cx, cellsO (b0 + 1) 40 cy] wr) (fun _ i _ => 8 - (intOf i).toNat)
    case atStart => exact ⟨0, by omega, rfl, rfl, OW.out⟩
    case round =>
      obtain ⟨k, hk, rfl, rfl, hO⟩ := hrel
      clear OW OZ
      have hb := exP_small 1 xs ys k
      by_cases hl : k < 8
      · have HK := Lib.hid (show exP 1 xs ys (k + 1) = max (exP 1 xs ys k) (sumN (fun j => cst 1 (xs.getD (9 * k + j) 0) (ys.getD (9 * k + j) 0)) 9) by rw [exP, ul_word HLX.out.1 HLX.out.2 (by exact hl)]; rfl)
        obtain ⟨M, hM⟩ : ∃ M, exP 1 xs ys k = M := ⟨_, rfl⟩
        rw [hM] at HK hb ⊢
        have OW := Lib.hid hO
        clear hO hM
        have q72 : Int.tdiv 72 9 = 8 := rfl
        gi_wp2
        gi_loopw [10, 11] (fun c i wr2 => ∃ j : Nat, j ≤ 9 ∧ i = .int .i64 ((9 : Int) * (k : Int) + (j : Int)) ∧ c = .int .i64 ((sumN (fun j => cst 1 (xs.getD (9 * k + j) 0) (ys.getD (9 * k + j) 0)) j : Nat) : Int) ∧ Own b0 w [cellsO b0 40 cx, cellsO (b0 + 1) 40 cy] wr2) (fun _ i _ => 9 * k + 9 - (intOf i).toNat)
        case atStart => exact ⟨0, by omega, by simp, rfl, OW.out⟩
        case round =>
          obtain ⟨j, hj, rfl, rfl, hO2⟩ := hrel
          clear OW
          by_cases hl2 : j < 9
          · have e1 := (hO2.blk (k := 0) rfl).cell (9 * k + j)
            have e2 := (hO2.blk (k := 1) rfl).cell (9 * k + j)
            rw [HC.out.1 (9 * k + j) (by omega)] at e1
            rw [HC.out.2 (9 * k + j) (by omega)] at e2
            obtain ⟨x, hx⟩ : ∃ x, xs.getD (9 * k + j) 0 = x := ⟨_, rfl⟩
            obtain ⟨y, hy⟩ : ∃ x, ys.getD (9 * k + j) 0 = x := ⟨_, rfl⟩
            have HS := Lib.hid (show sumN (fun j => cst 1 (xs.getD (9 * k + j) 0) (ys.getD (9 * k + j) 0)) (j + 1) = sumN (fun j => cst 1 (xs.getD (9 * k + j) 0) (ys.getD (9 * k + j) 0)) j + cst 1 x y by rw [sumN, hx, hy])
            have hsl := sumN_le' 1 (fun j => xs.getD (9 * k + j) 0) (fun j => ys.getD (9 * k + j) 0) j
            obtain ⟨S, hS⟩ : ∃ S, sumN (fun j => cst 1 (xs.getD (9 * k + j) 0) (ys.getD (9 * k + j) 0)) j = S := ⟨_, rfl⟩
            have hsl' : S ≤ 64 * j := by rw [← hS]; exact hsl
            rw [hx] at e1
            rw [hy] at e2
            rw [hS] at HS ⊢
            obtain ⟨p, hp⟩ : ∃ p, 9 * k + j = p := ⟨_, rfl⟩
            have hp' : (9 : Int) * (k : Int) + (j : Int) = (p : Int) := by omega
            rw [hp] at e1 e2
            have hz := u8_xorF x y
            have lz : (x ^^^ y).toNat < 256 := UInt8.toNat_lt _
            have HS2 := Lib.hid (show sumN (fun j => cst 1 (xs.getD (9 * k + j) 0) (ys.getD (9 * k + j) 0)) (j + 1) = S + pc (x ^^^ y).toNat from HS.out)
            obtain ⟨z, hz2⟩ : ∃ z, (x ^^^ y).toNat = z := ⟨_, rfl⟩
            have RW := fun w => refWeight (z : Int) z rfl (by omega) w
            have hPl : pc z ≤ 64 := pc_le z
            rw [hz2] at hz lz HS2
            obtain ⟨P, hP⟩ : ∃ P, pc z = P := ⟨_, rfl⟩
            rw [hP] at RW HS2 hPl
            have HW := Lib.hid RW
            have OW := Lib.hid hO2
            have i0 : (0 : Int) ≤ (p : Int) := by omega
            have i1 : (p : Int) < 72 := by omega
            have i2 : (p : Int) < 9 * (k : Int) + 9 := by omega
            have HPP := Lib.hid hp'
            rw [hp']
            clear hx hy hS hsl hz2 hP RW hO2 HS hp hp'
            gi_upto_region 11 with fail
            refine wpIn_wide.2 ?_
            go_quiet ((go_at_call 71; exact Calls.quiet_of_same ((HW.out _).mono fun _ _ h => ⟨h.1, h.2.symm⟩)))
            gi_wp2
            go_roundw
            case rel => exact ⟨j + 1, hl2, by rw [← HPP.out]; go_num, by rw [HS2.out]; go_num, OW.out.drewN nq⟩
            case measure => have := HPP.out; simp [intOf]; omega
          · obtain rfl : j = 9 := by omega
            obtain ⟨S, hS⟩ : ∃ S, sumN (fun j => cst 1 (xs.getD (9 * k + j) 0) (ys.getD (9 * k + j) 0)) 9 = S := ⟨_, rfl⟩
            rw [hS] at HK ⊢
            have OW := Lib.hid hO2
            clear hO2 hS
            by_cases hms : M < S
            · have HE := Lib.hid (show exP 1 xs ys (k + 1) = S by rw [HK.out]; omega)
              clear HK
              gi_wp2
              go_roundw
              case rel => exact ⟨k + 1, hl, by go_num, by rw [HE.out], OW.out⟩
              case measure => simp [intOf]; omega
            · have HE := Lib.hid (show exP 1 xs ys (k + 1) = M by rw [HK.out]; omega)
              have hms' : S ≤ M := by omega
              clear HK hms
              gi_wp2
              go_roundw
              case rel => exact ⟨k + 1, hl, by go_num, by rw [HE.out], OW.out⟩
              case measure => simp [intOf]; omega
      · obtain rfl : k = 8 := by omega
        have OW := Lib.hid hO
        have HE := Lib.hid (show expo 1 xs ys = exP 1 xs ys 8 from rfl)
        obtain ⟨M, hM⟩ : ∃ M, exP 1 xs ys 8 = M := ⟨_, rfl⟩
        rw [hM] at hb ⊢
        rw [hM] at HE
        clear hO hM
        have q72 : Int.tdiv 72 9 = 8 := rfl
        gi_wp2
        refine leaves_own [] _ (Nat.le_of_eq HB0.out) (by simpa using OW.out) ?_
        intro W' hO
        exact ⟨.int .i64 (M : Nat), by simp [results, Try.results29, go_sem], by rw [HE.out], hO.done HB0⟩
  · rw [show chN 2 = 36 from rfl, show ((36 : Nat) : Int) = 36 from rfl] at HRC
    refine (callsIn_wide (n := 6)).1 ?_
    refine callsIn_of_wp_marks Try.func29 rfl trivial ?_ rfl
    simp only [Try.ntmps29, List.size_toArray, List.length_cons, List.length_nil, Nat.reduceAdd, Nat.reduceSub, Array.replicate_succ, Array.replicate_zero, List.push_toArray, List.append_toArray, List.nil_append, List.cons_append]
    gi_wp2_with (first
      | (refine own_box 40 (.tmp 1) rfl rfl (.agg cx) rfl cx rfl OW OZ ?_; clear OW OZ; intro W OW OZ)
      | (refine own_box 40 (.tmp 2) rfl rfl (.agg cy) rfl cy rfl OW OZ ?_; clear OW OZ; intro W OW OZ))
    refine ⟨trivial, ?_⟩
    refine (callsIn_wide.2 (HRC.out _)).mono ?_
    rintro e W1 ⟨rfl, rfl⟩
    gi_wp2
    gi_loopw [8, 9] (fun m i wr => ∃ k : Nat, k ≤ 2 ∧ i = .int .i64 k ∧ m = .int .i64 ((exP 2 xs ys k : Nat) : Int) ∧ Own b0 w [cellsO b0 40 cx, cellsO (b0 + 1) 40 cy] wr) (fun _ i _ => 2 - (intOf i).toNat)
    case atStart => exact ⟨0, by omega, rfl, rfl, OW.out⟩
    case round =>
      obtain ⟨k, hk, rfl, rfl, hO⟩ := hrel
      clear OW OZ
      have hb := exP_small 2 xs ys k
      by_cases hl : k < 2
      · have HK := Lib.hid (show exP 2 xs ys (k + 1) = max (exP 2 xs ys k) (sumN (fun j => cst 2 (xs.getD (36 * k + j) 0) (ys.getD (36 * k + j) 0)) 36) by rw [exP, ul_word HLX.out.1 HLX.out.2 (by exact hl)]; rfl)
        obtain ⟨M, hM⟩ : ∃ M, exP 2 xs ys k = M := ⟨_, rfl⟩
        rw [hM] at HK hb ⊢
        have OW := Lib.hid hO
        clear hO hM
        have q72 : Int.tdiv 72 36 = 2 := rfl
        gi_wp2
        gi_loopw [10, 11] (fun c i wr2 => ∃ j : Nat, j ≤ 36 ∧ i = .int .i64 ((36 : Int) * (k : Int) + (j : Int)) ∧ c = .int .i64 ((sumN (fun j => cst 2 (xs.getD (36 * k + j) 0) (ys.getD (36 * k + j) 0)) j : Nat) : Int) ∧ Own b0 w [cellsO b0 40 cx, cellsO (b0 + 1) 40 cy] wr2) (fun _ i _ => 36 * k + 36 - (intOf i).toNat)
        case atStart => exact ⟨0, by omega, by simp, rfl, OW.out⟩
        case round =>
          obtain ⟨j, hj, rfl, rfl, hO2⟩ := hrel
          clear OW
          by_cases hl2 : j < 36
          · have e1 := (hO2.blk (k := 0) rfl).cell (36 * k + j)
            have e2 := (hO2.blk (k := 1) rfl).cell (36 * k + j)
            rw [HC.out.1 (36 * k + j) (by omega)] at e1
            rw [HC.out.2 (36 * k + j) (by omega)] at e2
            obtain ⟨x, hx⟩ : ∃ x, xs.getD (36 * k + j) 0 = x := ⟨_, rfl⟩
            obtain ⟨y, hy⟩ : ∃ x, ys.getD (36 * k + j) 0 = x := ⟨_, rfl⟩
            have HS := Lib.hid (show sumN (fun j => cst 2 (xs.getD (36 * k + j) 0) (ys.getD (36 * k + j) 0)) (j + 1) = sumN (fun j => cst 2 (xs.getD (36 * k + j) 0) (ys.getD (36 * k + j) 0)) j + cst 2 x y by rw [sumN, hx, hy])
            have hsl := sumN_le' 2 (fun j => xs.getD (36 * k + j) 0) (fun j => ys.getD (36 * k + j) 0) j
            obtain ⟨S, hS⟩ : ∃ S, sumN (fun j => cst 2 (xs.getD (36 * k + j) 0) (ys.getD (36 * k + j) 0)) j = S := ⟨_, rfl⟩
            have hsl' : S ≤ 64 * j := by rw [← hS]; exact hsl
            rw [hx] at e1
            rw [hy] at e2
            rw [hS] at HS ⊢
            obtain ⟨p, hp⟩ : ∃ p, 36 * k + j = p := ⟨_, rfl⟩
            have hp' : (36 : Int) * (k : Int) + (j : Int) = (p : Int) := by omega
            rw [hp] at e1 e2
            have OW := Lib.hid hO2
            have i0 : (0 : Int) ≤ (p : Int) := by omega
            have i1 : (p : Int) < 72 := by omega
            have i2 : (p : Int) < 36 * (k : Int) + 36 := by omega
            have HPP := Lib.hid hp'
            rw [hp']
            clear hx hy hS hsl hO2 hp hp'
            by_cases hxy : x = y
            · subst hxy
              have HS2 := Lib.hid (show sumN (fun j => cst 2 (xs.getD (36 * k + j) 0) (ys.getD (36 * k + j) 0)) (j + 1) = S by rw [HS.out, cst_self]; rfl)
              have q1 : ((x.toNat : Int) != (x.toNat : Int)) = false := by simp
              obtain ⟨z, hz⟩ : ∃ z, x.toNat = z := ⟨_, rfl⟩
              rw [hz] at e1 e2 q1
              clear hz HS
              gi_upto_region 12 with fail
              refine wpIn_wide.2 ?_
              go_quiet (fail)
              gi_wp2
              go_roundw
              case rel => exact ⟨j + 1, hl2, by rw [← HPP.out]; go_num, by rw [HS2.out], OW.out.drewN nq⟩
              case measure => have := HPP.out; simp [intOf]; omega
            · have HS2 := Lib.hid (show sumN (fun j => cst 2 (xs.getD (36 * k + j) 0) (ys.getD (36 * k + j) 0)) (j + 1) = S + 1 by rw [HS.out]; unfold cst; rw [if_neg (by omega), if_neg hxy])
              have q1 : ((x.toNat : Int) != (y.toNat : Int)) = true := by rw [bne_iff_ne]; intro h; exact hxy (UInt8.toNat_inj.1 (by omega))
              obtain ⟨z, hz⟩ : ∃ z, x.toNat = z := ⟨_, rfl⟩
              obtain ⟨z', hz'⟩ : ∃ z, y.toNat = z := ⟨_, rfl⟩
              rw [hz] at e1 q1
              rw [hz'] at e2 q1
              clear hz hz' HS hxy
              gi_upto_region 12 with fail
              refine wpIn_wide.2 ?_
              go_quiet (fail)
              gi_wp2
              go_roundw
              case rel => exact ⟨j + 1, hl2, by rw [← HPP.out]; go_num, by rw [HS2.out]; go_num, OW.out.drewN nq⟩
              case measure => have := HPP.out; simp [intOf]; omega
          · obtain rfl : j = 36 := by omega
            obtain ⟨S, hS⟩ : ∃ S, sumN (fun j => cst 2 (xs.getD (36 * k + j) 0) (ys.getD (36 * k + j) 0)) 36 = S := ⟨_, rfl⟩
            rw [hS] at HK ⊢
            have OW := Lib.hid hO2
            clear hO2 hS
            by_cases hms : M < S
            · have HE := Lib.hid (show exP 2 xs ys (k + 1) = S by rw [HK.out]; omega)
              clear HK
              gi_wp2
              go_roundw
              case rel => exact ⟨k + 1, hl, by go_num, by rw [HE.out], OW.out⟩
              case measure => simp [intOf]; omega
            · have HE := Lib.hid (show exP 2 xs ys (k + 1) = M by rw [HK.out]; omega)
              have hms' : S ≤ M := by omega
              clear HK hms
              gi_wp2
              go_roundw
              case rel => exact ⟨k + 1, hl, by go_num, by rw [HE.out], OW.out⟩
              case measure => simp [intOf]; omega
      · obtain rfl : k = 2 := by omega
        have OW := Lib.hid hO
        have HE := Lib.hid (show expo 2 xs ys = exP 2 xs ys 2 from rfl)
        obtain ⟨M, hM⟩ : ∃ M, exP 2 xs ys 2 = M := ⟨_, rfl⟩
        rw [hM] at hb ⊢
        rw [hM] at HE
        clear hO hM
        have q72 : Int.tdiv 72 36 = 2 := rfl
        gi_wp2
        refine leaves_own [] _ (Nat.le_of_eq HB0.out) (by simpa using OW.out) ?_
        intro W' hO
        exact ⟨.int .i64 (M : Nat), by simp [results, Try.results29, go_sem], by rw [HE.out], hO.done HB0⟩
  · have HE := Lib.hid (expo_none h1 h2 xs ys)
    rw [show chN mode = 0 by unfold chN; rw [if_neg h1, if_neg h2]] at HRC
    rw [show ((0 : Nat) : Int) = 0 from rfl] at HRC
    rw [HE.out]
    clear h1 h2
    refine (callsIn_wide (n := 6)).1 ?_
    refine callsIn_of_wp_marks Try.func29 rfl trivial ?_ rfl
    simp only [Try.ntmps29, List.size_toArray, List.length_cons, List.length_nil, Nat.reduceAdd, Nat.reduceSub, Array.replicate_succ, Array.replicate_zero, List.push_toArray, List.append_toArray, List.nil_append, List.cons_append]
    gi_wp2_with (first
      | (refine own_box 40 (.tmp 1) rfl rfl (.agg cx) rfl cx rfl OW OZ ?_; clear OW OZ; intro W OW OZ)
      | (refine own_box 40 (.tmp 2) rfl rfl (.agg cy) rfl cy rfl OW OZ ?_; clear OW OZ; intro W OW OZ))
    refine ⟨trivial, ?_⟩
    refine (callsIn_wide.2 (HRC.out _)).mono ?_
    rintro e W1 ⟨rfl, rfl⟩
    gi_wp2
    gi_loopw [8, 9] (fun m i wr => m = .int .i64 0 ∧ i = .int .i64 0 ∧ Own b0 w [cellsO b0 40 cx, cellsO (b0 + 1) 40 cy] wr) (fun _ _ _ => 0)
    case atStart => exact ⟨rfl, rfl, OW.out⟩
    case round =>
      obtain ⟨rfl, rfl, hO⟩ := hrel
      clear OW OZ
      have OW := Lib.hid hO
      clear hO
      gi_wp2
      refine leaves_own [] _ (Nat.le_of_eq HB0.out) (by simpa using OW.out) ?_
      intro W' hO
      exact ⟨_, by simp [results, Try.results29, go_sem], rfl, hO.done HB0⟩
end Go.Proofs.Ytckhkagkpldoiaa
namespace Go.Proofs.Ytckhkagkpldoiaa
open Go.RowKit

/-- The lowest bit of an int. -/
def lowI (a : Int) : Nat := (a % 2).toNat
theorem lowI_lt (a : Int) : lowI a < 2 := by unfold lowI; omega
theorem i64_and1L (a : Int) : bits .and .i64 a 1 = (lowI a : Int) := by
  show IntKind.i64.wrap ((BitVec.ofInt 64 a &&& BitVec.ofInt 64 1).toNat : Int) = _
  have h1 : (BitVec.ofInt 64 1).toNat = 1 := rfl
  rw [BitVec.toNat_and, h1, Nat.and_one_is_mod, BitVec.toNat_ofInt, IntKind.wrap_i64]
  unfold lowI
  omega
theorem flip_num : ∀ x, x < 256 → ∀ r, r < 8 → x ^^^ 2 ^ r = if x / 2 ^ r % 2 = 1 then x - 2 ^ r else x + 2 ^ r := by decide +kernel
theorem flip_lo : ∀ x, x < 256 → ∀ r, r < 8 → (x / 2 ^ r % 2 = 1 → 2 ^ r ≤ x) ∧ (x / 2 ^ r % 2 ≠ 1 → x + 2 ^ r < 256) := by decide +kernel
theorem pow8 {r : Nat} (h : r < 8) : 2 ^ r ≤ 128 := by
  have : 2 ^ r ≤ 2 ^ 7 := Nat.pow_le_pow_right (by omega) (by omega)
  omega
/-- A bit forced. -/
def forceI (xs : List UInt8) (b v : Int) : List UInt8 := if bitI xs b = lowI v then xs else flipI xs b
theorem forceI_len (xs : List UInt8) (b v : Int) : (forceI xs b v).length = xs.length := by
  unfold forceI
  split
  · rfl
  · exact flipI_length xs b
theorem flip_byte (x : UInt8) {r : Nat} (h : r < 8) : (x ^^^ UInt8.ofNat (2 ^ r)).toNat = x.toNat ^^^ 2 ^ r := by
  have := pow8 h
  rw [UInt8.toNat_xor, UInt8.toNat_ofNat', Nat.mod_eq_of_lt (by omega)]
end Go.Proofs.Ytckhkagkpldoiaa
namespace Go.Proofs.Ytckhkagkpldoiaa
open Go.RowKit Go.Shelf
attribute [local go_sem] Oper.semAt_some

set_option maxRecDepth 100000 in
set_option maxHeartbeats 1000000 in
theorem rflip_any (xs : List UInt8) (lx : xs.length = 72) (b : Int) (v0 : -9223372036854775808 ≤ b) (v1 : b ≤ 9223372036854775807) (w : World) :
    Calls Try.prog 52 #[.agg (rawV xs), .int .i64 b] w fun e w' => e = .returned (.agg (rawV (flipI xs b))) ∧ Below w.heap.size w w' := by
  have lf : (flipI xs b).length = 72 := by rw [flipI_length, lx]
  have HSN := Lib.hid (show (Try.prog.info? 41).map (·.size) = some (rawV (flipI xs b)).size by rw [rawV_size, lf]; exact infoRaw)
  have HNS := Lib.hid (show (rawV (flipI xs b)).size = (rawV zero72).size by rw [rawV_size, rawV_size, lf]; rfl)
  have HN1 := Lib.hid (rawV_one (flipI xs b))
  obtain ⟨nv, hnv⟩ : ∃ nv, rawV (flipI xs b) = nv := ⟨_, rfl⟩
  rw [hnv] at HSN HNS HN1 ⊢
  have HNV := Lib.hid hnv
  clear lf hnv
  by_cases hin : 0 ≤ b ∧ b < 576
  · obtain ⟨p, rfl⟩ := Int.eq_ofNat_of_zero_le hin.1
    have hp : p / 8 < 72 := by omega
    have hfl := flipI_in (xs := xs) (p := p) (by rw [lx]; exact hp)
    have m1 := i64_and7 p (by omega)
    obtain ⟨r, hr⟩ : ∃ r, p % 8 = r := ⟨_, rfl⟩
    have hrl : r < 8 := by omega
    rw [hr] at m1 hfl
    have i1 : (p : Int) / 8 < 72 := by omega
    have hset : (rawV xs).setIfInBounds (p / 8) (.int .u8 ((xs.getD (p / 8) 0 ^^^ UInt8.ofNat (2 ^ r)).toNat : Int)) = nv := by rw [rawV_set, ← hfl]; exact HNV.out
    have HSX := Lib.hid (show (Try.prog.info? 41).map (·.size) = some (rawV xs).size by rw [rawV_size, lx]; exact infoRaw)
    have HSZ := Lib.hid (show (Try.prog.info? 41).map (·.size) = some (rawV zero72).size by rw [rawV_size]; exact infoRaw)
    have HC1 := fun j (hj : j < 72) => rawV_get xs (i := j) (by rw [lx]; exact hj)
    obtain ⟨cv, hcv⟩ : ∃ cv, rawV xs = cv := ⟨_, rfl⟩
    rw [hcv] at HSX HC1 ⊢
    have HCV := Lib.hid hcv
    have HC := Lib.hid HC1
    have HLX := Lib.hid lx
    obtain ⟨b0, hb0⟩ : ∃ b0, w.heap.size = b0 := ⟨_, rfl⟩
    have HB0 := Lib.hid hb0
    have OW := Lib.hid (Own.start b0 w)
    have OZ := Lib.hid (And.intro hb0 (Nat.le_refl b0))
    clear hcv lx hb0 HC1
    have HSET := Lib.hid hset
    have e1 := HC.out (p / 8) hp
    obtain ⟨x, hx⟩ : ∃ x, xs.getD (p / 8) 0 = x := ⟨_, rfl⟩
    rw [hx] at e1 HSET
    have hz := u8_xorF x (UInt8.ofNat (2 ^ r))
    have e2 : ((UInt8.ofNat (2 ^ r)).toNat : Int) = (2 : Int) ^ r % 256 := by rw [UInt8.toNat_ofNat']; simp
    rw [e2] at hz
    have HZ := Lib.hid hz
    have HR := Lib.hid hr
    obtain ⟨n, hn⟩ : ∃ n, x.toNat = n := ⟨_, rfl⟩
    have lx8 := x.toNat_lt
    rw [hn] at e1 HZ lx8
    clear hx hz e2 hfl hr hn hset hin
    rw [HCV.out] at HSET
    have i3 : (p : Int) < 576 := by omega
    refine (callsIn_wide (n := 6)).1 ?_
    refine callsIn_of_wp_marks Try.func52 rfl trivial ?_ rfl
    simp only [Try.ntmps52, List.size_toArray, List.length_cons, List.length_nil, Nat.reduceAdd, Nat.reduceSub, Array.replicate_succ, Array.replicate_zero, List.push_toArray, List.append_toArray, List.nil_append, List.cons_append]
    gi_upto_region 1 with (first
      | (refine own_box 41 (.tmp 0) rfl rfl (.agg cv) rfl cv rfl OW OZ ?_; clear OW OZ; intro W OW OZ)
      | (refine own_alloc 41 rfl rfl _ alRaw OW OZ ?_; clear OW OZ; intro W OW OZ))
    have e1' := ((OW.out.blk (k := 0) rfl).cell (p / 8)).trans e1
    have f1 := (OW.out.blk (k := 0) rfl).frozen (p / 8)
    clear e1
    gi_upto_region 3 with fail
    refine own_setcN (k := 0) rfl OW OZ ?_
    clear OW OZ e1' f1
    intro W OW OZ
    rw [HZ.out, HSET.out] at OW
    gi_wp2_with (first
      | (refine own_box 41 (.tmp 0) rfl rfl (.agg cv) rfl cv rfl OW OZ ?_; clear OW OZ; intro W OW OZ)
      | (refine own_alloc 41 rfl rfl _ alRaw OW OZ ?_; clear OW OZ; intro W OW OZ)
      | (refine own_loadRow 0 41 (.tmp 2) rfl rfl rfl rfl _ Try.underlying41 rfl HSN.out OW ?_)
      | (refine own_storeRow 1 41 (.tmp 4) (.tmp 21) rfl rfl rfl rfl nv rfl HNS.out HN1.out HSN.out _ rfl OW OZ ?_; clear OW OZ; intro W OW OZ))
    refine leaves_own [] _ (Nat.le_of_eq HB0.out) (by simpa using OW.out) ?_
    intro W' hO
    exact ⟨_, results_ownRow hO 1 rfl rfl rfl Try.underlying41 rfl HSN.out, rfl, hO.done HB0⟩
  · have HE := Lib.hid (show flipI xs b = xs from flipI_out (by rw [lx]; omega))
    have HSX := Lib.hid (show (Try.prog.info? 41).map (·.size) = some (rawV xs).size by rw [rawV_size, lx]; exact infoRaw)
    have HSZ := Lib.hid (show (Try.prog.info? 41).map (·.size) = some (rawV zero72).size by rw [rawV_size]; exact infoRaw)
    have HC1 := fun j (hj : j < 72) => rawV_get xs (i := j) (by rw [lx]; exact hj)
    obtain ⟨cv, hcv⟩ : ∃ cv, rawV xs = cv := ⟨_, rfl⟩
    rw [hcv] at HSX HC1 ⊢
    have HCV := Lib.hid hcv
    have HC := Lib.hid HC1
    have HLX := Lib.hid lx
    obtain ⟨b0, hb0⟩ : ∃ b0, w.heap.size = b0 := ⟨_, rfl⟩
    have HB0 := Lib.hid hb0
    have OW := Lib.hid (Own.start b0 w)
    have OZ := Lib.hid (And.intro hb0 (Nat.le_refl b0))
    clear hcv lx hb0 HC1
    have HNC := Lib.hid (show cv = nv by rw [← HNV.out, ← HCV.out, HE.out])
    rw [HNC.out]
    rw [HNC.out] at HSX
    clear HC HCV
    obtain ⟨cv, hcv⟩ : ∃ cv, nv = cv := ⟨_, rfl⟩
    subst hcv
    by_cases h0 : 0 ≤ b
    · have h1 : 576 ≤ b := by omega
      clear hin
      refine (callsIn_wide (n := 6)).1 ?_
      refine callsIn_of_wp_marks Try.func52 rfl trivial ?_ rfl
      simp only [Try.ntmps52, List.size_toArray, List.length_cons, List.length_nil, Nat.reduceAdd, Nat.reduceSub, Array.replicate_succ, Array.replicate_zero, List.push_toArray, List.append_toArray, List.nil_append, List.cons_append]
      gi_wp2_with (first
        | (refine own_box 41 (.tmp 0) rfl rfl (.agg nv) rfl nv rfl OW OZ ?_; clear OW OZ; intro W OW OZ)
        | (refine own_alloc 41 rfl rfl _ alRaw OW OZ ?_; clear OW OZ; intro W OW OZ)
        | (refine own_loadRow 0 41 (.tmp 2) rfl rfl rfl rfl _ Try.underlying41 rfl HSN.out OW ?_)
        | (refine own_storeRow 1 41 (.tmp 4) (.tmp 21) rfl rfl rfl rfl nv rfl HNS.out HN1.out HSN.out _ rfl OW OZ ?_; clear OW OZ; intro W OW OZ))
      refine leaves_own [] _ (Nat.le_of_eq HB0.out) (by simpa using OW.out) ?_
      intro W' hO
      exact ⟨_, results_ownRow hO 1 rfl rfl rfl Try.underlying41 rfl HSN.out, rfl, hO.done HB0⟩
    · clear hin
      refine (callsIn_wide (n := 6)).1 ?_
      refine callsIn_of_wp_marks Try.func52 rfl trivial ?_ rfl
      simp only [Try.ntmps52, List.size_toArray, List.length_cons, List.length_nil, Nat.reduceAdd, Nat.reduceSub, Array.replicate_succ, Array.replicate_zero, List.push_toArray, List.append_toArray, List.nil_append, List.cons_append]
      gi_wp2_with (first
        | (refine own_box 41 (.tmp 0) rfl rfl (.agg nv) rfl nv rfl OW OZ ?_; clear OW OZ; intro W OW OZ)
        | (refine own_alloc 41 rfl rfl _ alRaw OW OZ ?_; clear OW OZ; intro W OW OZ)
        | (refine own_loadRow 0 41 (.tmp 2) rfl rfl rfl rfl _ Try.underlying41 rfl HSN.out OW ?_)
        | (refine own_storeRow 1 41 (.tmp 4) (.tmp 21) rfl rfl rfl rfl nv rfl HNS.out HN1.out HSN.out _ rfl OW OZ ?_; clear OW OZ; intro W OW OZ))
      refine leaves_own [] _ (Nat.le_of_eq HB0.out) (by simpa using OW.out) ?_
      intro W' hO
      exact ⟨_, results_ownRow hO 1 rfl rfl rfl Try.underlying41 rfl HSN.out, rfl, hO.done HB0⟩
end Go.Proofs.Ytckhkagkpldoiaa
namespace Go.Proofs.Ytckhkagkpldoiaa
open Go.RowKit Go.Shelf
attribute [local go_sem] Oper.semAt_some

theorem infoRaw2 : (Try.prog.info? 40).map (·.size) = some 72 := by kernel_rfl
theorem alRaw2 : ∀ w : World, (Instr.alloc 40 true (.tuple #[])).run Try.prog w = .ok (.pointer (some ⟨w.heap.size, 0, none⟩)) (w.alloc (.cells (rawV zero72) 40)) := fun _ => by kernel_rfl

set_option maxRecDepth 100000 in
set_option maxHeartbeats 1000000 in
theorem rforce_any (xs : List UInt8) (lx : xs.length = 72) (b v : Int) (v0 : -9223372036854775808 ≤ b) (v1 : b ≤ 9223372036854775807) (w : World) :
    Calls Try.prog 66 #[.agg (rawV xs), .int .i64 b, .int .i64 v] w fun e w' => e = .returned (.agg (rawV (forceI xs b v))) ∧ Below w.heap.size w w' := by
  have HFL := Lib.hid (fun W => rflip_any xs lx b v0 v1 W)
  have HGT := Lib.hid (fun A W h => get_any A 72 72 xs lx b v0 v1 W h)
  have m1 := i64_and1L v
  by_cases hb : bitI xs b = lowI v
  · have HE := Lib.hid (show forceI xs b v = xs from if_pos hb)
    rw [HE.out]
    rw [hb] at HGT
    obtain ⟨L, hL⟩ : ∃ L, lowI v = L := ⟨_, rfl⟩
    rw [hL] at m1 HGT
    clear hb hL
    have HSX := Lib.hid (show (Try.prog.info? 41).map (·.size) = some (rawV xs).size by rw [rawV_size, lx]; exact infoRaw)
    have HSX2 := Lib.hid (show (Try.prog.info? 40).map (·.size) = some (rawV xs).size by rw [rawV_size, lx]; exact infoRaw2)
    have HC1 := fun j (hj : j < 72) => rawV_get xs (i := j) (by rw [lx]; exact hj)
    obtain ⟨cv, hcv⟩ : ∃ cv, rawV xs = cv := ⟨_, rfl⟩
    rw [hcv] at HSX HSX2 HC1 ⊢
    have HCV := Lib.hid hcv
    have HC := Lib.hid HC1
    have HLX := Lib.hid lx
    obtain ⟨b0, hb0⟩ : ∃ b0, w.heap.size = b0 := ⟨_, rfl⟩
    have HB0 := Lib.hid hb0
    have OW := Lib.hid (Own.start b0 w)
    have OZ := Lib.hid (And.intro hb0 (Nat.le_refl b0))
    clear hcv lx hb0 HC1
    have HNS := Lib.hid (show cv.size = (rawV zero72).size by rw [← HCV.out, rawV_size, rawV_size, HLX.out]; rfl)
    have HN1 := Lib.hid (show cv.all (·.oneCell') = true by rw [← HCV.out]; exact rawV_one xs)
    have hsl := rawSlice_all b0
    refine (callsIn_wide (n := 6)).1 ?_
    refine callsIn_of_wp_marks Try.func66 rfl trivial ?_ rfl
    simp only [Try.ntmps66, List.size_toArray, List.length_cons, List.length_nil, Nat.reduceAdd, Nat.reduceSub, Array.replicate_succ, Array.replicate_zero, List.push_toArray, List.append_toArray, List.nil_append, List.cons_append]
    gi_wp2_with (first
      | (refine own_box 41 (.tmp 0) rfl rfl (.agg cv) rfl cv rfl OW OZ ?_; clear OW OZ; intro W OW OZ)
      | (refine own_alloc 41 rfl rfl _ alRaw OW OZ ?_; clear OW OZ; intro W OW OZ))
    refine ⟨trivial, ?_⟩
    refine (callsIn_wide.2 (HGT.out _ _ (RdB.ofBlk (OW.out.blk (k := 0) rfl) (fun k hk => HC.out k (by rw [HLX.out] at hk; exact hk))))).mono ?_
    rintro e W1 ⟨rfl, rfl⟩
    gi_wp2_with (first
      | (refine own_loadRow 0 41 (.tmp 3) rfl rfl rfl rfl _ Try.underlying41 rfl HSX.out OW ?_)
      | (refine own_storeRow 1 41 (.tmp 6) (.tmp 16) rfl rfl rfl rfl cv rfl HNS.out HN1.out HSX.out _ rfl OW OZ ?_; clear OW OZ; intro W OW OZ))
    refine leaves_own [] _ (Nat.le_of_eq HB0.out) (by simpa using OW.out) ?_
    intro W' hO
    exact ⟨_, results_ownRow hO 1 rfl rfl rfl Try.underlying41 rfl HSX.out, rfl, hO.done HB0⟩
  · have HE := Lib.hid (show forceI xs b v = flipI xs b from if_neg hb)
    rw [HE.out]
    have lf : (flipI xs b).length = 72 := by rw [flipI_length, lx]
    have HSN := Lib.hid (show (Try.prog.info? 41).map (·.size) = some (rawV (flipI xs b)).size by rw [rawV_size, lf]; exact infoRaw)
    have HSN2 := Lib.hid (show (Try.prog.info? 40).map (·.size) = some (rawV (flipI xs b)).size by rw [rawV_size, lf]; exact infoRaw2)
    have HNS := Lib.hid (show (rawV (flipI xs b)).size = (rawV zero72).size by rw [rawV_size, rawV_size, lf]; rfl)
    have HN1 := Lib.hid (rawV_one (flipI xs b))
    obtain ⟨nv, hnv⟩ : ∃ nv, rawV (flipI xs b) = nv := ⟨_, rfl⟩
    rw [hnv] at HSN HSN2 HNS HN1 ⊢
    have HNV := Lib.hid hnv
    clear lf hnv
    rw [HNV.out] at HFL
    obtain ⟨L, hL⟩ : ∃ L, lowI v = L := ⟨_, rfl⟩
    obtain ⟨M, hM⟩ : ∃ L, bitI xs b = L := ⟨_, rfl⟩
    rw [hL] at m1 hb
    rw [hM] at HGT hb
    have q1 : ((M : Int) != (L : Int)) = true := by rw [bne_iff_ne]; omega
    clear hb hL hM
    have HSX := Lib.hid (show (Try.prog.info? 41).map (·.size) = some (rawV xs).size by rw [rawV_size, lx]; exact infoRaw)
    have HSX2 := Lib.hid (show (Try.prog.info? 40).map (·.size) = some (rawV xs).size by rw [rawV_size, lx]; exact infoRaw2)
    have HC1 := fun j (hj : j < 72) => rawV_get xs (i := j) (by rw [lx]; exact hj)
    obtain ⟨cv, hcv⟩ : ∃ cv, rawV xs = cv := ⟨_, rfl⟩
    rw [hcv] at HSX HSX2 HC1 ⊢
    have HCV := Lib.hid hcv
    have HC := Lib.hid HC1
    have HLX := Lib.hid lx
    obtain ⟨b0, hb0⟩ : ∃ b0, w.heap.size = b0 := ⟨_, rfl⟩
    have HB0 := Lib.hid hb0
    have OW := Lib.hid (Own.start b0 w)
    have OZ := Lib.hid (And.intro hb0 (Nat.le_refl b0))
    clear hcv lx hb0 HC1
    rw [HCV.out] at HFL
    have hsl := rawSlice_all b0
    refine (callsIn_wide (n := 6)).1 ?_
    refine callsIn_of_wp_marks Try.func66 rfl trivial ?_ rfl
    simp only [Try.ntmps66, List.size_toArray, List.length_cons, List.length_nil, Nat.reduceAdd, Nat.reduceSub, Array.replicate_succ, Array.replicate_zero, List.push_toArray, List.append_toArray, List.nil_append, List.cons_append]
    gi_wp2_with (first
      | (refine own_box 41 (.tmp 0) rfl rfl (.agg cv) rfl cv rfl OW OZ ?_; clear OW OZ; intro W OW OZ)
      | (refine own_alloc 41 rfl rfl _ alRaw OW OZ ?_; clear OW OZ; intro W OW OZ))
    refine ⟨trivial, ?_⟩
    refine (callsIn_wide.2 (HGT.out _ _ (RdB.ofBlk (OW.out.blk (k := 0) rfl) (fun k hk => HC.out k (by rw [HLX.out] at hk; exact hk))))).mono ?_
    rintro e W1 ⟨rfl, rfl⟩
    gi_wp2_with (first
      | (refine own_loadRow 0 41 (.tmp 3) rfl rfl rfl rfl _ Try.underlying41 rfl HSX.out OW ?_))
    refine ⟨trivial, ?_⟩
    refine (callsIn_wide.2 (HFL.out _)).mono ?_
    rintro e W2 ⟨rfl, hbw⟩
    obtain ⟨g1, OW2, OZ2⟩ := own_call OW OZ hbw
    clear hbw OW OZ
    have OW := OW2
    have OZ := OZ2
    clear OW2 OZ2
    gi_wp2_with (first
      | (refine own_storeRow 1 41 (.tmp 6) (.tmp 15) rfl rfl rfl rfl nv rfl HNS.out HN1.out HSN.out _ rfl OW OZ ?_; clear OW OZ; intro W OW OZ))
    refine leaves_own [] _ (Nat.le_of_eq HB0.out) (by simpa using OW.out) ?_
    intro W' hO
    exact ⟨_, results_ownRow hO 1 rfl rfl rfl Try.underlying41 rfl HSN.out, rfl, hO.done HB0⟩
end Go.Proofs.Ytckhkagkpldoiaa
namespace Go.Proofs.Ytckhkagkpldoiaa
open Go.RowKit Go.Shelf
attribute [local go_sem] Oper.semAt_some

/-- The first i bytes gone through: those of a chip are set. -/
def chR (n : Nat) (chip : Int) (v : UInt8) (xs : List UInt8) (i : Nat) : List UInt8 := (List.range 72).map fun j => if j < i ∧ ((j % n : Nat) : Int) = chip then v else xs.getD j 0
theorem chR_len (n : Nat) (chip : Int) (v : UInt8) (xs : List UInt8) (i : Nat) : (chR n chip v xs i).length = 72 := by unfold chR; rw [List.length_map, List.length_range]
theorem chR_get {n : Nat} {chip : Int} {v : UInt8} {xs : List UInt8} {i j : Nat} (h : j < 72) : (chR n chip v xs i).getD j 0 = if j < i ∧ ((j % n : Nat) : Int) = chip then v else xs.getD j 0 := by
  unfold chR
  rw [List.getD_eq_getElem?_getD, List.getElem?_map, List.getElem?_range h]
  rfl
theorem eq72 {xs ys : List UInt8} (hx : xs.length = 72) (hy : ys.length = 72) (h : ∀ i, i < 72 → xs.getD i 0 = ys.getD i 0) : xs = ys := by
  refine List.ext_getElem (by omega) fun i h1 h2 => ?_
  have h3 := h i (by omega)
  rwa [List.getD_eq_getElem?_getD, List.getD_eq_getElem?_getD, List.getElem?_eq_getElem h1, List.getElem?_eq_getElem h2] at h3
theorem set_getD {xs : List UInt8} {k : Nat} {v : UInt8} {i : Nat} (hk : k < xs.length) : (xs.set k v).getD i 0 = if i = k then v else xs.getD i 0 := by
  rw [List.getD_eq_getElem?_getD, List.getElem?_set]
  by_cases e : k = i
  · subst e; rw [if_pos rfl, if_pos hk, if_pos rfl]; rfl
  · rw [if_neg e, if_neg (Ne.symm e), ← List.getD_eq_getElem?_getD]
theorem chR_set {n : Nat} {chip : Int} {v : UInt8} {xs : List UInt8} {i : Nat} (h : i < 72) (hc : ((i % n : Nat) : Int) = chip) : (chR n chip v xs i).set i v = chR n chip v xs (i + 1) := by
  refine eq72 (by rw [List.length_set, chR_len]) (chR_len ..) fun j hj => ?_
  rw [set_getD (by rw [chR_len]; exact h), chR_get hj, chR_get hj]
  by_cases e : j = i
  · subst e; rw [if_pos rfl, if_pos ⟨by omega, hc⟩]
  · rw [if_neg e]
    congr 1
    refine propext ⟨fun h => ⟨by omega, h.2⟩, fun h => ⟨by omega, h.2⟩⟩
theorem chR_skip {n : Nat} {chip : Int} {v : UInt8} {xs : List UInt8} {i : Nat} (h : i < 72) (hc : ((i % n : Nat) : Int) ≠ chip) : chR n chip v xs (i + 1) = chR n chip v xs i := by
  refine eq72 (chR_len ..) (chR_len ..) fun j hj => ?_
  rw [chR_get hj, chR_get hj]
  congr 1
  refine propext ⟨fun h => ⟨?_, h.2⟩, fun h => ⟨by omega, h.2⟩⟩
  by_cases e : j = i
  · subst e; exact absurd h.2 hc
  · omega
theorem chR_zero {n : Nat} {chip : Int} {v : UInt8} {xs : List UInt8} (lx : xs.length = 72) : chR n chip v xs 0 = xs :=
  eq72 (chR_len ..) lx fun j hj => by rw [chR_get hj, if_neg (fun h => absurd h.1 (Nat.not_lt_zero _))]
theorem chR_all {mode chip : Int} (hm : mode = 1 ∨ mode = 2) {v : UInt8} {xs : List UInt8} (lx : xs.length = 72) : chR (chN mode) chip v xs 72 = chipB mode xs chip v := by
  refine eq72 (chR_len ..) (chipB_len lx) fun j hj => ?_
  obtain ⟨p1, p2, p3⟩ := place_of hm hj
  rw [chR_get hj]
  by_cases hc : 0 ≤ chip ∧ chip < chN mode
  · obtain ⟨c, rfl⟩ := Int.eq_ofNat_of_zero_le hc.1
    rw [chipB_get hm lx (by omega) v hj]
    congr 1
    exact propext ⟨fun h => by have := h.2; omega, fun h => ⟨hj, by rw [h]⟩⟩
  · rw [chipB_out hc, if_neg]
    rintro ⟨_, h⟩
    apply hc
    rw [← h]
    omega

set_option maxRecDepth 100000 in
set_option maxHeartbeats 1000000 in
theorem refChip_any (mode : Int) (xs : List UInt8) (lx : xs.length = 72) (chip : Int) (v : UInt8) (w : World) :
    Calls Try.prog 68 #[.int .i64 mode, .agg (rawV xs), .int .i64 chip, .int .u8 (v.toNat : Int)] w fun e w' => e = .returned (.agg (rawV (chipB mode xs chip v))) ∧ Below w.heap.size w w' := by
  have HRC := Lib.hid (fun W => refChips_any mode W)
  have lc := chipB_len (mode := mode) (chip := chip) (v := v) lx
  have HSX2 := Lib.hid (show (Try.prog.info? 40).map (·.size) = some (rawV xs).size by rw [rawV_size, lx]; exact infoRaw2)
  have HNS := Lib.hid (fun zs : List UInt8 => fun h : zs.length = 72 => (show (rawV zs).size = (rawV zero72).size by rw [rawV_size, rawV_size, h]; rfl))
  have HIN := Lib.hid (fun zs : List UInt8 => fun h : zs.length = 72 => (show (Try.prog.info? 40).map (·.size) = some (rawV zs).size by rw [rawV_size, h]; exact infoRaw2))
  have HLX := Lib.hid lx
  obtain ⟨b0, hb0⟩ : ∃ b0, w.heap.size = b0 := ⟨_, rfl⟩
  have HB0 := Lib.hid hb0
  have OW := Lib.hid (Own.start b0 w)
  have OZ := Lib.hid (And.intro hb0 (Nat.le_refl b0))
  clear lx hb0
  have HSN2 := Lib.hid (HIN.out _ lc)
  have HNZ := Lib.hid (HNS.out _ lc)
  have HN1 := Lib.hid (rawV_one (chipB mode xs chip v))
  clear lc
  rcases modes mode with rfl | rfl | ⟨h1, h2⟩
  · have HALL := Lib.hid (show chR 9 chip v xs 72 = chipB 1 xs chip v from chR_all (.inl rfl) HLX.out)
    rw [show chN 1 = 9 from rfl, show ((9 : Nat) : Int) = 9 from rfl] at HRC
    refine (callsIn_wide (n := 6)).1 ?_
    refine callsIn_of_wp_marks Try.func68 rfl trivial ?_ rfl
    simp only [Try.ntmps68, List.size_toArray, List.length_cons, List.length_nil, Nat.reduceAdd, Nat.reduceSub, Array.replicate_succ, Array.replicate_zero, List.push_toArray, List.append_toArray, List.nil_append, List.cons_append]
    gi_wp2_with (first
      | (refine own_box 40 (.tmp 1) rfl rfl (.agg (rawV xs)) rfl (rawV xs) rfl OW OZ ?_; clear OW OZ; intro W OW OZ)
      | (refine own_alloc 40 rfl rfl _ alRaw2 OW OZ ?_; clear OW OZ; intro W OW OZ))
    refine ⟨trivial, ?_⟩
    refine (callsIn_wide.2 (HRC.out _)).mono ?_
    rintro e W1 ⟨rfl, rfl⟩
    gi_wp2
    gi_loopw [10] (fun i wr => ∃ j : Nat, j ≤ 72 ∧ i = .int .i64 j ∧ Own b0 w [cellsO b0 40 (rawV (chR 9 chip v xs j)), cellsO (b0 + 1) 40 (rawV zero72)] wr) (fun i _ => 72 - (intOf i).toNat)
    case atStart => exact ⟨0, by omega, rfl, by rw [chR_zero HLX.out]; exact OW.out⟩
    case round =>
      obtain ⟨j, hj, rfl, hO⟩ := hrel
      clear OW OZ
      have OW := Lib.hid hO
      obtain ⟨G, OZ⟩ := own_size OW HB0
      clear hO
      by_cases hl : j < 72
      · have t1 : Int.tmod (j : Int) 9 = ((j % 9 : Nat) : Int) := rfl
        by_cases hc : ((j % 9 : Nat) : Int) = chip
        · have q1 : (((j % 9 : Nat) : Int) == chip) = true := by rw [beq_iff_eq]; exact hc
          have HST := Lib.hid (chR_set (v := v) (xs := xs) hl hc)
          have e1 := (OW.out.blk (k := 0) rfl).cell j
          rw [rawV_get _ (by rw [chR_len]; exact hl)] at e1
          have f1 := (OW.out.blk (k := 0) rfl).frozen j
          obtain ⟨x, hx⟩ : ∃ x, ((chR 9 chip v xs j).getD j 0).toNat = x := ⟨_, rfl⟩
          rw [hx] at e1
          obtain ⟨M, hM⟩ : ∃ M, j % 9 = M := ⟨_, rfl⟩
          rw [hM] at q1 t1
          clear hx hc hM
          gi_wp2
          go_roundw
          case rel =>
            have h1 := OW.out.setc (k := 0) (i := j) rfl (.int .u8 (v.toNat : Int))
            rw [rawV_set, HST.out] at h1
            exact ⟨j + 1, hl, by go_num, h1⟩
          case measure => simp [intOf]; omega
        · have q1 : (((j % 9 : Nat) : Int) == chip) = false := by rw [beq_eq_false_iff_ne]; exact hc
          have HST := Lib.hid (chR_skip (v := v) (xs := xs) hl hc)
          obtain ⟨M, hM⟩ : ∃ M, j % 9 = M := ⟨_, rfl⟩
          rw [hM] at q1 t1
          clear hc hM
          gi_wp2
          go_roundw
          case rel => exact ⟨j + 1, hl, by go_num, by rw [HST.out]; exact OW.out⟩
          case measure => simp [intOf]; omega
      · obtain rfl : j = 72 := by omega
        rw [HALL.out] at OW
        gi_wp2_with (first
          | (refine own_loadRow 0 40 (.tmp 5) rfl rfl rfl rfl _ Try.underlying40 rfl HSN2.out OW ?_)
          | (refine own_storeRow 1 40 (.tmp 8) (.tmp 29) rfl rfl rfl rfl _ rfl HNZ.out HN1.out HSN2.out _ rfl OW OZ ?_; clear OW OZ; intro W OW OZ))
        refine leaves_own [] _ (Nat.le_of_eq HB0.out) (by simpa using OW.out) ?_
        intro W' hO
        exact ⟨_, results_ownRow hO 1 rfl rfl rfl Try.underlying40 rfl HSN2.out, rfl, hO.done HB0⟩
  · have HALL := Lib.hid (show chR 36 chip v xs 72 = chipB 2 xs chip v from chR_all (.inr rfl) HLX.out)
    rw [show chN 2 = 36 from rfl, show ((36 : Nat) : Int) = 36 from rfl] at HRC
    refine (callsIn_wide (n := 6)).1 ?_
    refine callsIn_of_wp_marks Try.func68 rfl trivial ?_ rfl
    simp only [Try.ntmps68, List.size_toArray, List.length_cons, List.length_nil, Nat.reduceAdd, Nat.reduceSub, Array.replicate_succ, Array.replicate_zero, List.push_toArray, List.append_toArray, List.nil_append, List.cons_append]
    gi_wp2_with (first
      | (refine own_box 40 (.tmp 1) rfl rfl (.agg (rawV xs)) rfl (rawV xs) rfl OW OZ ?_; clear OW OZ; intro W OW OZ)
      | (refine own_alloc 40 rfl rfl _ alRaw2 OW OZ ?_; clear OW OZ; intro W OW OZ))
    refine ⟨trivial, ?_⟩
    refine (callsIn_wide.2 (HRC.out _)).mono ?_
    rintro e W1 ⟨rfl, rfl⟩
    gi_wp2
    gi_loopw [10] (fun i wr => ∃ j : Nat, j ≤ 72 ∧ i = .int .i64 j ∧ Own b0 w [cellsO b0 40 (rawV (chR 36 chip v xs j)), cellsO (b0 + 1) 40 (rawV zero72)] wr) (fun i _ => 72 - (intOf i).toNat)
    case atStart => exact ⟨0, by omega, rfl, by rw [chR_zero HLX.out]; exact OW.out⟩
    case round =>
      obtain ⟨j, hj, rfl, hO⟩ := hrel
      clear OW OZ
      have OW := Lib.hid hO
      obtain ⟨G, OZ⟩ := own_size OW HB0
      clear hO
      by_cases hl : j < 72
      · have t1 : Int.tmod (j : Int) 36 = ((j % 36 : Nat) : Int) := rfl
        by_cases hc : ((j % 36 : Nat) : Int) = chip
        · have q1 : (((j % 36 : Nat) : Int) == chip) = true := by rw [beq_iff_eq]; exact hc
          have HST := Lib.hid (chR_set (v := v) (xs := xs) hl hc)
          have e1 := (OW.out.blk (k := 0) rfl).cell j
          rw [rawV_get _ (by rw [chR_len]; exact hl)] at e1
          have f1 := (OW.out.blk (k := 0) rfl).frozen j
          obtain ⟨x, hx⟩ : ∃ x, ((chR 36 chip v xs j).getD j 0).toNat = x := ⟨_, rfl⟩
          rw [hx] at e1
          obtain ⟨M, hM⟩ : ∃ M, j % 36 = M := ⟨_, rfl⟩
          rw [hM] at q1 t1
          clear hx hc hM
          gi_wp2
          go_roundw
          case rel =>
            have h1 := OW.out.setc (k := 0) (i := j) rfl (.int .u8 (v.toNat : Int))
            rw [rawV_set, HST.out] at h1
            exact ⟨j + 1, hl, by go_num, h1⟩
          case measure => simp [intOf]; omega
        · have q1 : (((j % 36 : Nat) : Int) == chip) = false := by rw [beq_eq_false_iff_ne]; exact hc
          have HST := Lib.hid (chR_skip (v := v) (xs := xs) hl hc)
          obtain ⟨M, hM⟩ : ∃ M, j % 36 = M := ⟨_, rfl⟩
          rw [hM] at q1 t1
          clear hc hM
          gi_wp2
          go_roundw
          case rel => exact ⟨j + 1, hl, by go_num, by rw [HST.out]; exact OW.out⟩
          case measure => simp [intOf]; omega
      · obtain rfl : j = 72 := by omega
        rw [HALL.out] at OW
        gi_wp2_with (first
          | (refine own_loadRow 0 40 (.tmp 5) rfl rfl rfl rfl _ Try.underlying40 rfl HSN2.out OW ?_)
          | (refine own_storeRow 1 40 (.tmp 8) (.tmp 29) rfl rfl rfl rfl _ rfl HNZ.out HN1.out HSN2.out _ rfl OW OZ ?_; clear OW OZ; intro W OW OZ))
        refine leaves_own [] _ (Nat.le_of_eq HB0.out) (by simpa using OW.out) ?_
        intro W' hO
        exact ⟨_, results_ownRow hO 1 rfl rfl rfl Try.underlying40 rfl HSN2.out, rfl, hO.done HB0⟩
  · have hn : chN mode = 0 := by unfold chN; rw [if_neg h1, if_neg h2]
    have HE := Lib.hid (show chipB mode xs chip v = xs from chipB_out (by omega) xs v)
    rw [hn, show ((0 : Nat) : Int) = 0 from rfl] at HRC
    rw [HE.out] at HSN2 HNZ HN1 ⊢
    clear h1 h2 hn
    refine (callsIn_wide (n := 6)).1 ?_
    refine callsIn_of_wp_marks Try.func68 rfl trivial ?_ rfl
    simp only [Try.ntmps68, List.size_toArray, List.length_cons, List.length_nil, Nat.reduceAdd, Nat.reduceSub, Array.replicate_succ, Array.replicate_zero, List.push_toArray, List.append_toArray, List.nil_append, List.cons_append]
    gi_wp2_with (first
      | (refine own_box 40 (.tmp 1) rfl rfl (.agg (rawV xs)) rfl (rawV xs) rfl OW OZ ?_; clear OW OZ; intro W OW OZ)
      | (refine own_alloc 40 rfl rfl _ alRaw2 OW OZ ?_; clear OW OZ; intro W OW OZ))
    refine ⟨trivial, ?_⟩
    refine (callsIn_wide.2 (HRC.out _)).mono ?_
    rintro e W1 ⟨rfl, rfl⟩
    gi_wp2
    gi_loopw [10] (fun i wr => i = .int .i64 0 ∧ Own b0 w [cellsO b0 40 (rawV xs), cellsO (b0 + 1) 40 (rawV zero72)] wr) (fun _ _ => 0)
    case atStart => exact ⟨rfl, OW.out⟩
    case round =>
      obtain ⟨rfl, hO⟩ := hrel
      clear OW OZ
      have OW := Lib.hid hO
      obtain ⟨G, OZ⟩ := own_size OW HB0
      clear hO
      gi_wp2_with (first
        | (refine own_loadRow 0 40 (.tmp 5) rfl rfl rfl rfl _ Try.underlying40 rfl HSN2.out OW ?_)
        | (refine own_storeRow 1 40 (.tmp 8) (.tmp 29) rfl rfl rfl rfl _ rfl HNZ.out HN1.out HSN2.out _ rfl OW OZ ?_; clear OW OZ; intro W OW OZ))
      refine leaves_own [] _ (Nat.le_of_eq HB0.out) (by simpa using OW.out) ?_
      intro W' hO
      exact ⟨_, results_ownRow hO 1 rfl rfl rfl Try.underlying40 rfl HSN2.out, rfl, hO.done HB0⟩
end Go.Proofs.Ytckhkagkpldoiaa
namespace Go.Proofs.Ytckhkagkpldoiaa
open Go.RowKit Go.Shelf
attribute [local go_sem] Oper.semAt_some

def whoseC (mode b : Int) : Nat := if 0 ≤ b ∧ b < 576 ∧ (mode = 1 ∨ mode = 2) then b.toNat / 8 % chN mode else 0
def whoseE (mode b : Int) : Nat := if 0 ≤ b ∧ b < 576 ∧ (mode = 1 ∨ mode = 2) then 0 else 12

end Go.Proofs.Ytckhkagkpldoiaa
namespace Go.Proofs.Ytckhkagkpldoiaa
open Go.RowKit Go.Shelf
attribute [local go_sem] Oper.semAt_some

theorem force_out {xs : List UInt8} (lx : xs.length = 72) {b : Int} (h : ¬ (0 ≤ b ∧ b < 576)) (v : Int) : forceI xs b v = xs := by
  unfold forceI
  split
  · rfl
  · exact flipI_out (by rw [lx]; omega)
set_option maxRecDepth 100000 in
set_option maxHeartbeats 1000000 in
theorem refForce_any (xs : List UInt8) (lx : xs.length = 72) (b v : Int) (v0 : -9223372036854775808 ≤ b) (v1 : b ≤ 9223372036854775807) (w : World) :
    Calls Try.prog 37 #[.agg (rawV xs), .int .i64 b, .int .i64 v] w fun e w' => e = .returned (.agg (rawV (forceI xs b v))) ∧ Below w.heap.size w w' := by
  have lf : (forceI xs b v).length = 72 := by rw [forceI_len, lx]
  have HSX2 := Lib.hid (show (Try.prog.info? 40).map (·.size) = some (rawV xs).size by rw [rawV_size, lx]; exact infoRaw2)
  have HSN2 := Lib.hid (show (Try.prog.info? 40).map (·.size) = some (rawV (forceI xs b v)).size by rw [rawV_size, lf]; exact infoRaw2)
  have HNS := Lib.hid (show (rawV (forceI xs b v)).size = (rawV zero72).size by rw [rawV_size, rawV_size, lf]; rfl)
  have HN1 := Lib.hid (rawV_one (forceI xs b v))
  have HC := Lib.hid (fun j (hj : j < 72) => rawV_get xs (i := j) (by rw [lx]; exact hj))
  obtain ⟨b0, hb0⟩ : ∃ b0, w.heap.size = b0 := ⟨_, rfl⟩
  have HB0 := Lib.hid hb0
  have OW := Lib.hid (Own.start b0 w)
  have OZ := Lib.hid (And.intro hb0 (Nat.le_refl b0))
  by_cases hin : 0 ≤ b ∧ b < 576
  · obtain ⟨p, rfl⟩ := Int.eq_ofNat_of_zero_le hin.1
    have hp : p < 576 := by omega
    have hset : forceI xs (p : Int) v = xs.set (p / 8) (if bitI xs (p : Int) = lowI v then xs.getD (p / 8) 0 else xs.getD (p / 8) 0 ^^^ UInt8.ofNat (2 ^ (p % 8))) := by
      unfold forceI
      split
      · refine eq72 lx (by rw [List.length_set, lx]) fun i hi => ?_
        rw [set_getD (by omega)]
        split
        · rename_i e; rw [e]
        · rfl
      · exact flipI_in (by omega)
    have hbit := bitI_nat xs p
    have hfb := flip_byte (xs.getD (p / 8) 0) (r := p % 8) (by omega)
    obtain ⟨x, hx⟩ : ∃ x, xs.getD (p / 8) 0 = x := ⟨_, rfl⟩
    have e0 := HC.out (p / 8) (by omega)
    rw [hx] at hset hbit hfb e0
    have m1 := i64_and1L v
    have hLl := lowI_lt v
    obtain ⟨L, hL⟩ : ∃ L, lowI v = L := ⟨_, rfl⟩
    obtain ⟨M, hM⟩ : ∃ L, bitI xs (p : Int) = L := ⟨_, rfl⟩
    rw [hL] at m1 hset hLl
    rw [hM] at hset hbit
    obtain ⟨r, hr⟩ : ∃ r, p % 8 = r := ⟨_, rfl⟩
    have hrl : r < 8 := by omega
    rw [hr] at hset hbit hfb
    have hpw := pow8 hrl
    have hp1 := Nat.one_le_two_pow (n := r)
    have hxl := x.toNat_lt
    have hfn := flip_num x.toNat hxl r hrl
    have hfo := flip_lo x.toNat hxl r hrl
    have lf8 : (x ^^^ UInt8.ofNat (2 ^ r)).toNat < 256 := UInt8.toNat_lt _
    have t1 : Int.tmod (p : Int) 8 = (r : Int) := by rw [← hr]; rfl
    have i1 : (p : Int) / 8 < 72 := by omega
    have i2 : (p : Int) ≤ 575 := by omega
    have hst : ∀ z : UInt8, (rawV xs).setIfInBounds (p / 8) (.int .u8 (z.toNat : Int)) = rawV (xs.set (p / 8) z) := fun z => rawV_set xs (p / 8) z
    obtain ⟨nv, hnv⟩ : ∃ nv, rawV (forceI xs (p : Int) v) = nv := ⟨_, rfl⟩
    rw [hnv] at HSN2 HNS HN1 ⊢
    have hS := fun (z : UInt8) (hz : forceI xs (p : Int) v = xs.set (p / 8) z) => (show (rawV xs).setIfInBounds (p / 8) (.int .u8 (z.toNat : Int)) = nv by rw [hst, ← hz]; exact hnv)
    obtain ⟨cv, hcv⟩ : ∃ cv, rawV xs = cv := ⟨_, rfl⟩
    rw [hcv] at HC HSX2 e0 hS ⊢
    have HLR := Lib.hid (show ∀ k : Nat, 2 ^ (k + 1) = 2 ^ k * 2 from fun k => Nat.pow_succ 2 k)
    have HK := Lib.hid (fun k (hk : k ≤ r) => (show 2 ^ k ≤ 128 from Nat.le_trans (Nat.pow_le_pow_right (by omega) hk) hpw))
    obtain ⟨P, hP⟩ : ∃ P, 2 ^ r = P := ⟨_, rfl⟩
    have HP := Lib.hid hP
    rw [hP] at hbit hfb hpw hp1 hfn hfo
    have hfb' : (x ^^^ UInt8.ofNat (2 ^ r)).toNat = x.toNat ^^^ P := by rw [← hP] at hfb; rw [← hP]; exact hfb
    rw [← hfb'] at hfn
    obtain ⟨y, hy⟩ : ∃ y, x ^^^ UInt8.ofNat (2 ^ r) = y := ⟨_, rfl⟩
    have hset' : forceI xs (p : Int) v = xs.set (p / 8) (if M = L then x else y) := by rw [hset, ← hy]
    rw [hy] at hfn
    have hSM := hS _ hset'
    obtain ⟨n, hn⟩ : ∃ n, x.toNat = n := ⟨_, rfl⟩
    obtain ⟨m, hm⟩ : ∃ n, y.toNat = n := ⟨_, rfl⟩
    rw [hn] at hbit hfn hfo e0 hxl
    rw [hm] at hfn
    obtain ⟨Q, hQ⟩ : ∃ Q, n / P = Q := ⟨_, rfl⟩
    rw [hQ] at hbit hfn hfo
    have t2 : Int.tdiv (n : Int) (P : Int) = (Q : Int) := by rw [← hQ]; rfl
    have t3 : (n : Int) / (P : Int) = (Q : Int) := by rw [← hQ]; rfl
    have t4 : Int.tmod (Q : Int) 2 = (M : Int) := by rw [hbit]; rfl
    have t5 : (Q : Int) % 2 = (M : Int) := by rw [hbit]; rfl
    have hQl : Q ≤ 256 := by rw [← hQ]; exact Nat.le_trans (Nat.div_le_self _ _) (by omega)
    have hMl : M < 2 := by omega
    have HNM := Lib.hid (And.intro hn hm)
    clear hcv lx hb0 lf hset hset' hS hst hnv hy hQ hx hL hM hr hfb hfb' hP lf8 hin hn hm
    rcases (show M = 0 ∨ M = 1 by omega) with rfl | rfl
    · have hfn' : m = n + P := by rw [hfn, if_neg (by omega)]
      have hb := hfo.2 (by omega)
      rcases (show L = 0 ∨ L = 1 by omega) with rfl | rfl
      · rw [if_pos rfl, HNM.out.1] at hSM
        have HSM := Lib.hid hSM
        have HFN := Lib.hid hfn'
        clear hSM hfn hfo hfn' hbit hLl hMl
        refine (callsIn_wide (n := 6)).1 ?_
        refine callsIn_of_wp_marks Try.func37 rfl trivial ?_ rfl
        simp only [Try.ntmps37, List.size_toArray, List.length_cons, List.length_nil, Nat.reduceAdd, Nat.reduceSub, Array.replicate_succ, Array.replicate_zero, List.push_toArray, List.append_toArray, List.nil_append, List.cons_append]
        gi_upto_region 1 with (first
          | (refine own_box 40 (.tmp 0) rfl rfl (.agg cv) rfl cv rfl OW OZ ?_; clear OW OZ; intro W OW OZ)
          | (refine own_alloc 40 rfl rfl _ alRaw2 OW OZ ?_; clear OW OZ; intro W OW OZ))
        have e1 := ((OW.out.blk (k := 0) rfl).cell (p / 8)).trans e0
        have f1 := (OW.out.blk (k := 0) rfl).frozen (p / 8)
        clear e0
        gi_wp2
        gi_loop [7, 8] (fun q i => ∃ k : Nat, k ≤ r ∧ i = .int .i64 k ∧ q = .int .i64 ((2 ^ k : Nat) : Int)) (fun _ i => r - (intOf i).toNat)
        case atStart => exact ⟨0, by omega, rfl, rfl⟩
        case round =>
          obtain ⟨k, hk, rfl, rfl⟩ := hrel
          have hkb := HK.out k hk
          by_cases hl : k < r
          · have hk2 := HLR.out k
            obtain ⟨q, hq⟩ : ∃ q, 2 ^ k = q := ⟨_, rfl⟩
            rw [hq] at hk2 hkb ⊢
            have HQ2 := Lib.hid hk2
            clear hk2 hq
            gi_wp2
            go_round
            case rel => exact ⟨k + 1, hl, by go_num, by rw [HQ2.out]; go_num⟩
            case measure => simp only [intOf]; omega
          · obtain rfl : k = r := by omega
            rw [HP.out]
            clear hkb
            gi_upto_region 14 with fail
            refine own_setcN (k := 0) rfl OW OZ ?_
            clear OW OZ e1 f1
            intro W OW OZ
            rw [show ((n : Int) : Int) = ((n : Int) : Int) by have := HFN.out; omega, HSM.out] at OW
            gi_wp2_with (first
              | (refine own_loadRow 0 40 (.tmp 3) rfl rfl rfl rfl _ Try.underlying40 rfl HSN2.out OW ?_)
              | (refine own_storeRow 1 40 (.tmp 6) (.tmp 49) rfl rfl rfl rfl nv rfl HNS.out HN1.out HSN2.out _ rfl OW OZ ?_; clear OW OZ; intro W OW OZ))
            refine leaves_own [] _ (Nat.le_of_eq HB0.out) (by simpa using OW.out) ?_
            intro W' hO
            exact ⟨_, results_ownRow hO 1 rfl rfl rfl Try.underlying40 rfl HSN2.out, rfl, hO.done HB0⟩
      · rw [if_neg (by omega), HNM.out.2] at hSM
        have HSM := Lib.hid hSM
        have HFN := Lib.hid hfn'
        clear hSM hfn hfo hfn' hbit hLl hMl
        refine (callsIn_wide (n := 6)).1 ?_
        refine callsIn_of_wp_marks Try.func37 rfl trivial ?_ rfl
        simp only [Try.ntmps37, List.size_toArray, List.length_cons, List.length_nil, Nat.reduceAdd, Nat.reduceSub, Array.replicate_succ, Array.replicate_zero, List.push_toArray, List.append_toArray, List.nil_append, List.cons_append]
        gi_upto_region 1 with (first
          | (refine own_box 40 (.tmp 0) rfl rfl (.agg cv) rfl cv rfl OW OZ ?_; clear OW OZ; intro W OW OZ)
          | (refine own_alloc 40 rfl rfl _ alRaw2 OW OZ ?_; clear OW OZ; intro W OW OZ))
        have e1 := ((OW.out.blk (k := 0) rfl).cell (p / 8)).trans e0
        have f1 := (OW.out.blk (k := 0) rfl).frozen (p / 8)
        clear e0
        gi_wp2
        gi_loop [7, 8] (fun q i => ∃ k : Nat, k ≤ r ∧ i = .int .i64 k ∧ q = .int .i64 ((2 ^ k : Nat) : Int)) (fun _ i => r - (intOf i).toNat)
        case atStart => exact ⟨0, by omega, rfl, rfl⟩
        case round =>
          obtain ⟨k, hk, rfl, rfl⟩ := hrel
          have hkb := HK.out k hk
          by_cases hl : k < r
          · have hk2 := HLR.out k
            obtain ⟨q, hq⟩ : ∃ q, 2 ^ k = q := ⟨_, rfl⟩
            rw [hq] at hk2 hkb ⊢
            have HQ2 := Lib.hid hk2
            clear hk2 hq
            gi_wp2
            go_round
            case rel => exact ⟨k + 1, hl, by go_num, by rw [HQ2.out]; go_num⟩
            case measure => simp only [intOf]; omega
          · obtain rfl : k = r := by omega
            rw [HP.out]
            clear hkb
            gi_upto_region 14 with fail
            refine own_setcN (k := 0) rfl OW OZ ?_
            clear OW OZ e1 f1
            intro W OW OZ
            rw [show ((n : Int) + (P : Int) : Int) = ((m : Int) : Int) by have := HFN.out; omega, HSM.out] at OW
            gi_wp2_with (first
              | (refine own_loadRow 0 40 (.tmp 3) rfl rfl rfl rfl _ Try.underlying40 rfl HSN2.out OW ?_)
              | (refine own_storeRow 1 40 (.tmp 6) (.tmp 49) rfl rfl rfl rfl nv rfl HNS.out HN1.out HSN2.out _ rfl OW OZ ?_; clear OW OZ; intro W OW OZ))
            refine leaves_own [] _ (Nat.le_of_eq HB0.out) (by simpa using OW.out) ?_
            intro W' hO
            exact ⟨_, results_ownRow hO 1 rfl rfl rfl Try.underlying40 rfl HSN2.out, rfl, hO.done HB0⟩
    · have hfn' : m = n - P := by rw [hfn, if_pos (by omega)]
      have hb := hfo.1 (by omega)
      rcases (show L = 0 ∨ L = 1 by omega) with rfl | rfl
      · rw [if_neg (by omega), HNM.out.2] at hSM
        have HSM := Lib.hid hSM
        have HFN := Lib.hid hfn'
        clear hSM hfn hfo hfn' hbit hLl hMl
        refine (callsIn_wide (n := 6)).1 ?_
        refine callsIn_of_wp_marks Try.func37 rfl trivial ?_ rfl
        simp only [Try.ntmps37, List.size_toArray, List.length_cons, List.length_nil, Nat.reduceAdd, Nat.reduceSub, Array.replicate_succ, Array.replicate_zero, List.push_toArray, List.append_toArray, List.nil_append, List.cons_append]
        gi_upto_region 1 with (first
          | (refine own_box 40 (.tmp 0) rfl rfl (.agg cv) rfl cv rfl OW OZ ?_; clear OW OZ; intro W OW OZ)
          | (refine own_alloc 40 rfl rfl _ alRaw2 OW OZ ?_; clear OW OZ; intro W OW OZ))
        have e1 := ((OW.out.blk (k := 0) rfl).cell (p / 8)).trans e0
        have f1 := (OW.out.blk (k := 0) rfl).frozen (p / 8)
        clear e0
        gi_wp2
        gi_loop [7, 8] (fun q i => ∃ k : Nat, k ≤ r ∧ i = .int .i64 k ∧ q = .int .i64 ((2 ^ k : Nat) : Int)) (fun _ i => r - (intOf i).toNat)
        case atStart => exact ⟨0, by omega, rfl, rfl⟩
        case round =>
          obtain ⟨k, hk, rfl, rfl⟩ := hrel
          have hkb := HK.out k hk
          by_cases hl : k < r
          · have hk2 := HLR.out k
            obtain ⟨q, hq⟩ : ∃ q, 2 ^ k = q := ⟨_, rfl⟩
            rw [hq] at hk2 hkb ⊢
            have HQ2 := Lib.hid hk2
            clear hk2 hq
            gi_wp2
            go_round
            case rel => exact ⟨k + 1, hl, by go_num, by rw [HQ2.out]; go_num⟩
            case measure => simp only [intOf]; omega
          · obtain rfl : k = r := by omega
            rw [HP.out]
            clear hkb
            gi_upto_region 14 with fail
            refine own_setcN (k := 0) rfl OW OZ ?_
            clear OW OZ e1 f1
            intro W OW OZ
            rw [show ((n : Int) - (P : Int) : Int) = ((m : Int) : Int) by have := HFN.out; omega, HSM.out] at OW
            gi_wp2_with (first
              | (refine own_loadRow 0 40 (.tmp 3) rfl rfl rfl rfl _ Try.underlying40 rfl HSN2.out OW ?_)
              | (refine own_storeRow 1 40 (.tmp 6) (.tmp 49) rfl rfl rfl rfl nv rfl HNS.out HN1.out HSN2.out _ rfl OW OZ ?_; clear OW OZ; intro W OW OZ))
            refine leaves_own [] _ (Nat.le_of_eq HB0.out) (by simpa using OW.out) ?_
            intro W' hO
            exact ⟨_, results_ownRow hO 1 rfl rfl rfl Try.underlying40 rfl HSN2.out, rfl, hO.done HB0⟩
      · rw [if_pos rfl, HNM.out.1] at hSM
        have HSM := Lib.hid hSM
        have HFN := Lib.hid hfn'
        clear hSM hfn hfo hfn' hbit hLl hMl
        refine (callsIn_wide (n := 6)).1 ?_
        refine callsIn_of_wp_marks Try.func37 rfl trivial ?_ rfl
        simp only [Try.ntmps37, List.size_toArray, List.length_cons, List.length_nil, Nat.reduceAdd, Nat.reduceSub, Array.replicate_succ, Array.replicate_zero, List.push_toArray, List.append_toArray, List.nil_append, List.cons_append]
        gi_upto_region 1 with (first
          | (refine own_box 40 (.tmp 0) rfl rfl (.agg cv) rfl cv rfl OW OZ ?_; clear OW OZ; intro W OW OZ)
          | (refine own_alloc 40 rfl rfl _ alRaw2 OW OZ ?_; clear OW OZ; intro W OW OZ))
        have e1 := ((OW.out.blk (k := 0) rfl).cell (p / 8)).trans e0
        have f1 := (OW.out.blk (k := 0) rfl).frozen (p / 8)
        clear e0
        gi_wp2
        gi_loop [7, 8] (fun q i => ∃ k : Nat, k ≤ r ∧ i = .int .i64 k ∧ q = .int .i64 ((2 ^ k : Nat) : Int)) (fun _ i => r - (intOf i).toNat)
        case atStart => exact ⟨0, by omega, rfl, rfl⟩
        case round =>
          obtain ⟨k, hk, rfl, rfl⟩ := hrel
          have hkb := HK.out k hk
          by_cases hl : k < r
          · have hk2 := HLR.out k
            obtain ⟨q, hq⟩ : ∃ q, 2 ^ k = q := ⟨_, rfl⟩
            rw [hq] at hk2 hkb ⊢
            have HQ2 := Lib.hid hk2
            clear hk2 hq
            gi_wp2
            go_round
            case rel => exact ⟨k + 1, hl, by go_num, by rw [HQ2.out]; go_num⟩
            case measure => simp only [intOf]; omega
          · obtain rfl : k = r := by omega
            rw [HP.out]
            clear hkb
            gi_upto_region 14 with fail
            refine own_setcN (k := 0) rfl OW OZ ?_
            clear OW OZ e1 f1
            intro W OW OZ
            rw [show ((n : Int) : Int) = ((n : Int) : Int) by have := HFN.out; omega, HSM.out] at OW
            gi_wp2_with (first
              | (refine own_loadRow 0 40 (.tmp 3) rfl rfl rfl rfl _ Try.underlying40 rfl HSN2.out OW ?_)
              | (refine own_storeRow 1 40 (.tmp 6) (.tmp 49) rfl rfl rfl rfl nv rfl HNS.out HN1.out HSN2.out _ rfl OW OZ ?_; clear OW OZ; intro W OW OZ))
            refine leaves_own [] _ (Nat.le_of_eq HB0.out) (by simpa using OW.out) ?_
            intro W' hO
            exact ⟨_, results_ownRow hO 1 rfl rfl rfl Try.underlying40 rfl HSN2.out, rfl, hO.done HB0⟩
  · have HE := Lib.hid (force_out lx hin v)
    rw [HE.out] at HSN2 HNS HN1 ⊢
    obtain ⟨cv, hcv⟩ : ∃ cv, rawV xs = cv := ⟨_, rfl⟩
    rw [hcv] at HSN2 HNS HN1 HC HSX2 ⊢
    clear hcv lx hb0 lf
    by_cases h0 : 0 ≤ b
    · have h1 : 575 < b := by omega
      clear hin
      refine (callsIn_wide (n := 6)).1 ?_
      refine callsIn_of_wp_marks Try.func37 rfl trivial ?_ rfl
      simp only [Try.ntmps37, List.size_toArray, List.length_cons, List.length_nil, Nat.reduceAdd, Nat.reduceSub, Array.replicate_succ, Array.replicate_zero, List.push_toArray, List.append_toArray, List.nil_append, List.cons_append]
      gi_upto_region 1 with (first
        | (refine own_box 40 (.tmp 0) rfl rfl (.agg cv) rfl cv rfl OW OZ ?_; clear OW OZ; intro W OW OZ)
        | (refine own_alloc 40 rfl rfl _ alRaw2 OW OZ ?_; clear OW OZ; intro W OW OZ))
      gi_wp2_with (first
        | (refine own_loadRow 0 40 (.tmp 3) rfl rfl rfl rfl _ Try.underlying40 rfl HSN2.out OW ?_)
        | (refine own_storeRow 1 40 (.tmp 6) (.tmp 16) rfl rfl rfl rfl cv rfl HNS.out HN1.out HSN2.out _ rfl OW OZ ?_; clear OW OZ; intro W OW OZ))
      refine leaves_own [] _ (Nat.le_of_eq HB0.out) (by simpa using OW.out) ?_
      intro W' hO
      exact ⟨_, results_ownRow hO 1 rfl rfl rfl Try.underlying40 rfl HSN2.out, rfl, hO.done HB0⟩
    · clear hin
      refine (callsIn_wide (n := 6)).1 ?_
      refine callsIn_of_wp_marks Try.func37 rfl trivial ?_ rfl
      simp only [Try.ntmps37, List.size_toArray, List.length_cons, List.length_nil, Nat.reduceAdd, Nat.reduceSub, Array.replicate_succ, Array.replicate_zero, List.push_toArray, List.append_toArray, List.nil_append, List.cons_append]
      gi_upto_region 1 with (first
        | (refine own_box 40 (.tmp 0) rfl rfl (.agg cv) rfl cv rfl OW OZ ?_; clear OW OZ; intro W OW OZ)
        | (refine own_alloc 40 rfl rfl _ alRaw2 OW OZ ?_; clear OW OZ; intro W OW OZ))
      gi_wp2_with (first
        | (refine own_loadRow 0 40 (.tmp 3) rfl rfl rfl rfl _ Try.underlying40 rfl HSN2.out OW ?_)
        | (refine own_storeRow 1 40 (.tmp 6) (.tmp 16) rfl rfl rfl rfl cv rfl HNS.out HN1.out HSN2.out _ rfl OW OZ ?_; clear OW OZ; intro W OW OZ))
      refine leaves_own [] _ (Nat.le_of_eq HB0.out) (by simpa using OW.out) ?_
      intro W' hO
      exact ⟨_, results_ownRow hO 1 rfl rfl rfl Try.underlying40 rfl HSN2.out, rfl, hO.done HB0⟩
end Go.Proofs.Ytckhkagkpldoiaa
