/- Slices of bytes that a call has made: what they hold. -/
import Derived.Test.YtdgflbbffimpkaaPolyW
import Derived.Test.YtdgflbbffimpkaaBytC
import Derived.Test.YtdgflbbffimpkaaOwnP
import Derived.Test.YtdgflbbffimpkaaSlc
import Derived.Laws.AppendOwn
namespace Go.Proofs.Ytdgflbbffimpkaa
open Go.RowKit Go.Shelf Go.Lib
set_option linter.unusedVariables false

abbrev vU (x : UInt8) : Value := .int .u8 (x.toNat : Int)
/-- The cells of a row of bytes, and what lies behind. -/
def rowV (xs : List UInt8) (rest : List Value) : Array Value := (xs.map vU ++ rest).toArray
theorem rowV_size (xs : List UInt8) (rest : List Value) : (rowV xs rest).size = xs.length + rest.length := by simp [rowV]
theorem rowV_get {xs : List UInt8} {rest : List Value} {i : Nat} (h : i < xs.length) : (rowV xs rest)[i]? = some (vU (co xs i)) := by
  unfold rowV
  rw [List.getElem?_toArray, List.getElem?_append_left (by simpa using h), List.getElem?_map, List.getElem?_eq_getElem h, co_of_lt h]
  rfl
theorem rowV_set {xs : List UInt8} {rest : List Value} {i : Nat} (h : i < xs.length) (v : UInt8) : (rowV xs rest).setIfInBounds i (vU v) = rowV (xs.set i v) rest := by
  unfold rowV
  rw [List.setIfInBounds_toArray, List.set_append_left _ _ (by simpa using h), List.map_set]
theorem zeroB_row (n : Nat) : zeroB n = rowV (List.replicate n 0) [] := by
  refine Array.ext_getElem? fun i => ?_
  by_cases h : i < n
  · rw [zeroB_get n i h, rowV_get (by simpa using h)]
    simp [co, h]
  · rw [Array.getElem?_eq_none (by rw [zeroB_size]; omega), Array.getElem?_eq_none (by rw [rowV_size]; simp; omega)]

/-- A slice of a call's own that reads as xs. -/
def Fr (B : Nat) (w : World) (v : Value) (xs : List UInt8) : Prop := w.ownsRow B 5 1 v xs.length (xs.map vU)
theorem Fr.open {B : Nat} {w : World} {v : Value} {xs : List UInt8} (h : Fr B w v xs) : ∃ A c, v = .slice A xs.length c ∧ xs.length ≤ c ∧ c ≤ maxLen ∧ RdB w A xs := by
  obtain ⟨_, h⟩ := h
  rcases h with ⟨rfl, h0⟩ | ⟨g, cap, cur, rfl, hg, hh, h1, h2, h3, h4⟩
  · obtain rfl : xs = [] := List.length_eq_zero_iff.1 h0
    exact ⟨none, 0, rfl, Nat.le_refl _, Nat.zero_le _, RdB.nil⟩
  · refine ⟨_, _, rfl, h1, h2, RdB.ofBlk hh fun k hk => ?_⟩
    have e1 := congrArg (fun l => l[k]?) h4
    rw [List.getElem?_take_of_lt (by omega)] at e1
    rw [← Array.getElem?_toList, e1, List.getElem?_map, List.getElem?_eq_getElem hk, List.getD_eq_getElem?_getD, List.getElem?_eq_getElem hk]
    rfl
/-- The block that it lies in. -/
theorem Fr.row {B : Nat} {w : World} {v : Value} {xs : List UInt8} (h : Fr B w v xs) (h0 : 0 < xs.length) : ∃ g rest, v = .slice (some ⟨g, 0, none⟩) xs.length (xs.length + rest.length) ∧ B ≤ g ∧ xs.length + rest.length ≤ maxLen ∧ Blk w g 5 (rowV xs rest) := by
  obtain ⟨_, h⟩ := h
  rcases h with ⟨rfl, h1⟩ | ⟨g, cap, cur, rfl, hg, hh, h1, h2, h3, h4⟩
  · omega
  · rw [Nat.mul_one] at h3 h4
    have e : cur = rowV xs (cur.toList.drop xs.length) := by
      unfold rowV
      rw [← h4, List.take_append_drop]
    have hl : (cur.toList.drop xs.length).length = cap - xs.length := by rw [List.length_drop, Array.length_toList, h3]
    refine ⟨g, cur.toList.drop xs.length, by rw [hl]; congr 1; omega, hg, by rw [hl]; omega, ?_⟩
    rw [← e]; exact hh
theorem Fr.ofBlk {B : Nat} {w : World} {g : Nat} {xs : List UInt8} {rest : List Value} (h : Blk w g 5 (rowV xs rest)) (hB : B ≤ g) (hm : xs.length + rest.length ≤ maxLen) : Fr B w (.slice (some ⟨g, 0, none⟩) xs.length (xs.length + rest.length)) xs := by
  refine ⟨by simp, .inr ⟨g, _, rowV xs rest, rfl, hB, h, by omega, hm, by rw [rowV_size, Nat.mul_one], ?_⟩⟩
  unfold rowV
  rw [Nat.mul_one, List.take_append_of_le_length (by simp), List.take_of_length_le (by simp)]
theorem RdB.row {w : World} {g : Nat} {xs : List UInt8} {rest : List Value} (h : Blk w g 5 (rowV xs rest)) : RdB w (some ⟨g, 0, none⟩) xs := RdB.ofBlk h fun k hk => rowV_get hk
theorem Fr.nil (B : Nat) (w : World) : Fr B w (.slice none 0 0) [] := ⟨rfl, .inl ⟨rfl, rfl⟩⟩
/-- It stays while all older blocks do. -/
theorem Fr.below {B : Nat} {w w' : World} {v : Value} {xs : List UInt8} (h : Fr B w v xs) (hb : Below w.heap.size w w') : Fr B w' v xs := by
  obtain ⟨h0, h⟩ := h
  refine ⟨h0, ?_⟩
  rcases h with h | ⟨g, cap, cur, hv, hg, hh, h1, h2, h3, h4⟩
  · exact .inl h
  · exact .inr ⟨g, cap, cur, hv, hg, (hb.block g (Array.getElem?_eq_some_iff.1 hh).1).trans hh, h1, h2, h3, h4⟩
theorem Fr.lower {B B' : Nat} {w : World} {v : Value} {xs : List UInt8} (h : Fr B w v xs) (hB : B' ≤ B) : Fr B' w v xs := by
  obtain ⟨h0, h⟩ := h
  refine ⟨h0, ?_⟩
  rcases h with h | ⟨g, cap, cur, hv, hg, hh, h1⟩
  · exact .inl h
  · exact .inr ⟨g, cap, cur, hv, by omega, hh, h1⟩
theorem Own.rd {B : Nat} {base W : World} {L : Objs} {A : Option Addr} {xs : List UInt8} (h : Own B base L W) (hB : base.heap.size = B) (hx : RdB base A xs) : RdB W A xs := by
  subst hB; exact hx.below (h.below (Nat.le_refl _))
theorem Own.field {B : Nat} {base W : World} {L : Objs} {b : Nat} (h : Own B base L W) (hB : base.heap.size = B) (hf : FieldAt base b) : FieldAt W b := by
  subst hB
  exact ((h.below (Nat.le_refl _)).block b (Array.getElem?_eq_some_iff.1 hf).1).trans hf

theorem cloneF_any (A : Option Addr) (n c : Nat) (xs : List UInt8) (hn : xs.length = n) (hbig : n ≤ 140737488355328) (w : World) (hx : RdB w A xs) :
    Calls Try.prog 38 #[.slice A n c] w fun e w' => ∃ v, e = .returned v ∧ Fr w.heap.size w' v xs ∧ Below w.heap.size w w' := by
  subst hn
  cases A with
  | none =>
    obtain rfl : xs = [] := by
      rcases Nat.eq_zero_or_pos xs.length with h | h
      · exact List.length_eq_zero_iff.1 h
      · obtain ⟨b, o, hA, _⟩ := hx 0 (by omega); cases hA
    refine (Any.bytes_Clone_nil bclone 0 c w).mono ?_
    rintro e w' ⟨rfl, rfl⟩
    exact ⟨_, rfl, Fr.nil _ _, Below.refl _ _⟩
  | some a =>
    refine (Any.bytes_Clone_at bclone a xs.length c (xs.map fun x => (x.toNat : Int)) w (by rw [List.length_map]) hbig ?_).mono ?_
    · intro i hi
      obtain ⟨b, o, hA, _, hc⟩ := hx i (by omega)
      cases hA
      have hadd : (⟨b, o, none⟩ : Addr).add i = ⟨b, o + i, none⟩ := by
        unfold Addr.add
        split
        · rename_i h0; subst h0; rfl
        · rfl
      rw [hadd, hc, List.getD_eq_getElem?_getD, List.getD_eq_getElem?_getD, List.getElem?_map, List.getElem?_eq_getElem (by omega)]
      rfl
    · rintro e w' ⟨v', rfl, hv, _, hb⟩
      refine ⟨v', rfl, ?_, hb⟩
      unfold Fr
      rw [show xs.map vU = (xs.map fun x => (x.toNat : Int)).map (Value.int .u8) from by rw [List.map_map]; rfl]
      exact hv

theorem trim_any (A : Option Addr) (n c : Nat) (xs : List UInt8) (hn : xs.length = n) (hc : n ≤ c) (bn : n ≤ 100000) (w : World) (hx : RdB w A xs) :
    Calls Try.prog 33 #[.slice A n c] w fun e w' => ∃ v, e = .returned v ∧ Fr w.heap.size w' v (trimL xs) ∧ Below w.heap.size w w' := by
  have HX := Lib.hid hx
  have HD := Lib.hid (degree_any A n c xs hn (by unfold maxLen; omega) w hx)
  have ht := tlL_le xs
  have HC := Lib.hid (cloneF_any A (tlL xs) c (trimL xs) (trimL_len xs) (by omega) w (hx.take _))
  have hsl := sliceAt_low A n c (tlL xs) (by omega)
  obtain ⟨T, hT⟩ : ∃ T, tlL xs = T := ⟨_, rfl⟩
  rw [hT] at HD HC hsl ht
  have i0 : (0 : Int) ≤ (T : Int) := by omega
  have i1 : (T : Int) < 9223372036854775808 := by omega
  clear hx hT
  go_enter Try.func33, Try.ntmps33
  go_wp2_with fail
  refine (HD.out).mono ?_
  rintro e w2 ⟨rfl, rfl⟩
  go_wp2_with fail
  refine HC.out.mono ?_
  rintro e w2 ⟨v, rfl, h1, h2⟩
  go_wp2
  go_ret
  exact ⟨_, rfl, h1, h2⟩
end Go.Proofs.Ytdgflbbffimpkaa
