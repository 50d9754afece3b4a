/- Memory words: byte slices that read as lists. -/
import Derived.Below
import Derived.Laws.OwnMore
import Derived.Deep.Draws
import Derived.Laws.Rows
import Derived.OpenShut
namespace Go.Proofs.Ytckhkagkpldoiaa
open Go.RowKit

/-- What the row's step tells of a slice of integers that came in: nil, or a row of 'cap' numbers of their kind. -/
def IsRow (k : IntKind) (w : World) (a : Option Addr) (len cap : Nat) (zs : List Int) : Prop :=
  (a = none ∧ len = 0 ∧ cap = 0 ∧ zs = []) ∨
  ∃ x, a = some x ∧ len ≤ cap ∧ cap ≤ maxLen ∧ zs.length = cap ∧ (∀ i, i < zs.length → w.cell? (x.add i) = some (.int k (zs.getD i 0))) ∧ ∀ n ∈ zs, (Lit.int k n).wf = true

/-- A slice of bytes at A reads as xs. -/
def RdB (w : World) (A : Option Addr) (xs : List UInt8) : Prop :=
  ∀ k, k < xs.length → ∃ b o, A = some ⟨b, o, none⟩ ∧ b < w.heap.size ∧ w.cell? ⟨b, o + k, none⟩ = some (.int .u8 ((xs.getD k 0).toNat : Int))

theorem RdB.nil {w : World} {A : Option Addr} : RdB w A [] := fun k hk => absurd hk (by simp)
theorem RdB.drewN {w : World} {A : Option Addr} {xs : List UInt8} (h : RdB w A xs) (n : Nat) : RdB (w.drewN n) A xs := h
theorem RdB.keep {w w' : World} {A : Option Addr} {xs : List UInt8} (h : RdB w A xs) (hs : w.heap.size ≤ w'.heap.size) (hk : ∀ p : Addr, p.block < w.heap.size → w'.cell? p = w.cell? p) : RdB w' A xs := by
  intro k hx
  obtain ⟨b, o, hA, hb, hc⟩ := h k hx
  exact ⟨b, o, hA, by omega, (hk _ hb).trans hc⟩
theorem RdB.below {w w' : World} {A : Option Addr} {xs : List UInt8} (h : RdB w A xs) (hb : Below w.heap.size w w') : RdB w' A xs :=
  h.keep hb.size fun _ hp => hb.cell hp
theorem RdB.take {w : World} {A : Option Addr} {xs : List UInt8} (h : RdB w A xs) (n : Nat) : RdB w A (xs.take n) := by
  intro k hk
  rw [List.length_take] at hk
  obtain ⟨b, o, hA, hb, hc⟩ := h k (by omega)
  refine ⟨b, o, hA, hb, ?_⟩
  rw [hc, List.getD_eq_getElem?_getD, List.getD_eq_getElem?_getD, List.getElem?_take_of_lt (by omega)]

theorem IsRow.bytes {w : World} {a : Option Addr} {len cap : Nat} {zs : List Int} (h : IsRow .u8 w a len cap zs) :
    ∃ xs : List UInt8, xs.length = len ∧ len ≤ cap ∧ cap ≤ maxLen ∧ RdB w a xs := by
  rcases h with ⟨rfl, rfl, rfl, rfl⟩ | ⟨x, rfl, hl, hm, hz, hc, hw⟩
  · exact ⟨[], rfl, Nat.le_refl _, Nat.zero_le _, RdB.nil⟩
  · refine ⟨(zs.take len).map fun z => UInt8.ofNat z.toNat, by rw [List.length_map, List.length_take]; omega, hl, hm, ?_⟩
    intro k hk
    rw [List.length_map, List.length_take] at hk
    have hk1 : k < zs.length := by omega
    have hck := hc k hk1
    obtain ⟨b, off, spot⟩ := x
    have hspot : spot = none := by simpa [Addr.add] using World.cell?_spot (hc 0 (by omega))
    subst hspot
    have hadd : (⟨b, off, none⟩ : Addr).add k = ⟨b, off + k, none⟩ := by
      unfold Addr.add
      split
      · rename_i h0; subst h0; rfl
      · rfl
    rw [hadd] at hck
    have hwf := bounds_u8 (hw zs[k] (List.getElem_mem hk1))
    have hg : zs.getD k 0 = zs[k] := by rw [List.getD_eq_getElem?_getD, List.getElem?_eq_getElem hk1]; rfl
    refine ⟨b, off, rfl, ?_, ?_⟩
    · rcases Nat.lt_or_ge b w.heap.size with hlt | hge
      · exact hlt
      · exfalso
        simp [World.cell?, Array.getElem?_eq_none hge] at hck
    · rw [hck, hg]
      congr 2
      rw [List.getD_eq_getElem?_getD, List.getElem?_map, List.getElem?_take_of_lt (by omega), List.getElem?_eq_getElem hk1]
      show zs[k] = ((UInt8.ofNat zs[k].toNat).toNat : Int)
      rw [UInt8.toNat_ofNat']
      omega
end Go.Proofs.Ytckhkagkpldoiaa
