/- bit.Flip: a copy with one bit turned. -/
import Derived.Test.YtjbpegmdbgkdlaaBytC
import Derived.Test.YtjbpegmdbgkdlaaBitG
namespace Go.Proofs.Ytjbpegmdbgkdlaa
open Go.RowKit

/-- A list of bytes with bit i turned; beyond it: as it was. -/
def flipI (xs : List UInt8) (i : Int) : List UInt8 := if 0 ≤ i ∧ i.toNat / 8 < xs.length then xs.set (i.toNat / 8) (xs.getD (i.toNat / 8) 0 ^^^ UInt8.ofNat (2 ^ (i.toNat % 8))) else xs
theorem flipI_length (xs : List UInt8) (i : Int) : (flipI xs i).length = xs.length := by unfold flipI; split <;> simp
theorem flipI_out {xs : List UInt8} {i : Int} (h : ¬ (0 ≤ i ∧ i.toNat / 8 < xs.length)) : flipI xs i = xs := if_neg h
theorem flipI_in {xs : List UInt8} {p : Nat} (h : p / 8 < xs.length) : flipI xs (p : Int) = xs.set (p / 8) (xs.getD (p / 8) 0 ^^^ UInt8.ofNat (2 ^ (p % 8))) := by
  unfold flipI; rw [if_pos ⟨by omega, h⟩]; rfl

theorem set_cells {cs : Array Value} {xs : List UInt8} (h : ∀ k, k < xs.length → cs[k]? = some (.int .u8 ((xs.getD k 0).toNat : Int))) (q : Nat) (v : UInt8) :
    ∀ k, k < (xs.set q v).length → (cs.setIfInBounds q (.int .u8 (v.toNat : Int)))[k]? = some (.int .u8 (((xs.set q v).getD k 0).toNat : Int)) := by
  intro k hk
  rw [List.length_set] at hk
  have h2 := h k hk
  have hsz : k < cs.size := (Array.getElem?_eq_some_iff.1 h2).1
  rw [Array.getElem?_setIfInBounds, List.getD_eq_getElem?_getD, List.getElem?_set]
  by_cases hkq : q = k
  · rw [if_pos hkq, if_pos hkq, if_pos (by omega), if_pos (by omega)]; rfl
  · rw [if_neg hkq, if_neg hkq, h2, List.getD_eq_getElem?_getD]
theorem u8_xorF (a b : UInt8) : bits .xor .u8 (a.toNat : Int) (b.toNat : Int) = ((a ^^^ b).toNat : Int) := by
  have ha := a.toNat_lt
  have hb := b.toNat_lt
  have h8 : ∀ c : Nat, c < 256 → (BitVec.ofInt 8 (c : Int)).toNat = c := by
    intro c hc
    rw [BitVec.ofInt_natCast, BitVec.toNat_ofNat]; exact Nat.mod_eq_of_lt (by omega)
  have hx : a.toNat ^^^ b.toNat < 2 ^ 8 := Nat.xor_lt_two_pow ha hb
  show IntKind.u8.wrap ((BitVec.ofInt 8 (a.toNat : Int) ^^^ BitVec.ofInt 8 (b.toNat : Int)).toNat : Int) = _
  rw [BitVec.toNat_xor, h8 _ ha, h8 _ hb, UInt8.toNat_xor]
  exact IntWalk.u8_in _ (by omega)

set_option maxRecDepth 100000 in
theorem flip_any (A : Option Addr) (n c : Nat) (xs : List UInt8) (hn : xs.length = n) (hbig : n ≤ 140737488355328) (i : Int) (h0 : -9223372036854775808 ≤ i) (h1 : i ≤ 9223372036854775807) (w : World) (hx : RdB w A xs) :
    Calls Try.prog 7 #[.slice A n c, .int .i64 i] w fun e w' => ∃ A' c', e = .returned (.slice A' n c') ∧ Own w' w.heap.size A' (flipI xs i) ∧ RdB w' A' (flipI xs i) ∧ Below w.heap.size w w' := by
  have HC := Lib.hid (clone_any A n c xs hn hbig w hx)
  by_cases hin : 0 ≤ i ∧ i.toNat / 8 < n
  · obtain ⟨hi, hp⟩ := hin
    obtain ⟨p, rfl⟩ := Int.eq_ofNat_of_zero_le hi
    simp only [Int.toNat_natCast] at hp
    have i1 : (p : Int) / 8 < (n : Int) := by omega
    have m1 := i64_and7 p (by omega)
    obtain ⟨r, hr⟩ : ∃ r, p % 8 = r := ⟨_, rfl⟩
    have hrl : r < 8 := by omega
    have hfl := flipI_in (xs := xs) (p := p) (by omega)
    rw [hr] at m1 hfl
    have HF := Lib.hid hfl
    have HX := Lib.hid hx
    have HN := Lib.hid hn
    clear hi h0 hx hn hr hfl
    go_enter Try.func7, Try.ntmps7
    go_wp2_with fail
    refine HC.out.mono ?_
    rintro e w1 ⟨A', c', rfl, hown, hrd, hb⟩
    rcases hown with ⟨rfl, hnil⟩ | ⟨g, cs, rfl, hg, hbk, hcs⟩
    · exfalso; have := HN.out; rw [hnil] at this; simp at this; omega
    have hcp := hcs (p / 8) (by have := HN.out; omega)
    have hcell := hbk.cell (p / 8)
    have hfz := hbk.frozen (p / 8)
    rw [hcp] at hcell
    obtain ⟨x, hxx⟩ : ∃ x, (xs.getD (p / 8) 0).toNat = x := ⟨_, rfl⟩
    have lx : x < 256 := by rw [← hxx]; exact UInt8.toNat_lt _
    rw [hxx] at hcell
    have HCS := Lib.hid hcs
    have HBK := Lib.hid hbk
    have HB := Lib.hid hb
    have HXX := Lib.hid hxx
    clear hcp hxx hcs hbk hb hrd
    go_wp2
    go_ret
    have hv : bits .xor .u8 (x : Int) (2 ^ r % 256) = ((xs.getD (p / 8) 0 ^^^ UInt8.ofNat (2 ^ r)).toNat : Int) := by
      have e2 : ((2 : Int) ^ r % 256) = ((UInt8.ofNat (2 ^ r)).toNat : Int) := by rw [UInt8.toNat_ofNat']; simp
      rw [e2, ← HXX.out]; exact u8_xorF _ _
    rw [HF.out, hv]
    have hall := set_cells HCS.out (p / 8) (xs.getD (p / 8) 0 ^^^ UInt8.ofNat (2 ^ r))
    exact ⟨some ⟨g, 0, none⟩, c', rfl, .inr ⟨g, _, rfl, hg, HBK.out.set_ (p / 8) _, hall⟩, RdB.ofBlk (HBK.out.set_ (p / 8) _) hall, HB.out.setCell (p := ⟨g, p / 8, none⟩) hg _⟩
  · have hfl := flipI_out (xs := xs) (i := i) (by rw [hn]; exact hin)
    have HF := Lib.hid hfl
    by_cases hi : 0 ≤ i
    · obtain ⟨p, rfl⟩ := Int.eq_ofNat_of_zero_le hi
      have i1 : ¬ ((p : Int) / 8 < (n : Int)) := by simp only [Int.toNat_natCast] at hin; omega
      clear hin hi h0 hfl
      go_enter Try.func7, Try.ntmps7
      go_wp2_with fail
      refine HC.out.mono ?_
      rintro e w1 ⟨A', c', rfl, hown, hrd, hb⟩
      have H1 := Lib.hid hown
      have H2 := Lib.hid hrd
      have H3 := Lib.hid hb
      clear hown hrd hb
      go_wp2
      go_ret
      exact ⟨A', c', rfl, by rw [HF.out]; exact H1.out, by rw [HF.out]; exact H2.out, H3.out⟩
    · clear hin hfl
      go_enter Try.func7, Try.ntmps7
      go_wp2_with fail
      refine HC.out.mono ?_
      rintro e w1 ⟨A', c', rfl, hown, hrd, hb⟩
      have H1 := Lib.hid hown
      have H2 := Lib.hid hrd
      have H3 := Lib.hid hb
      clear hown hrd hb
      go_wp2
      go_ret
      exact ⟨A', ⟨c', rfl⟩, by rw [HF.out]; exact H1.out, by rw [HF.out]; exact H2.out, H3.out⟩
end Go.Proofs.Ytjbpegmdbgkdlaa
