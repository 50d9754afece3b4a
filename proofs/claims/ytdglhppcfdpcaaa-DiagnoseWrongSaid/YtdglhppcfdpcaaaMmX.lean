/- Several texts in one: Mem MemP. -/
import Derived.Below
import Derived.Laws.OwnMore
import Derived.Deep.Draws
import Derived.Laws.Rows
import Derived.OpenShut
import Derived.Test.YtdglhppcfdpcaaaRows
import Derived.WalkKit
namespace Go.Proofs.Ytdglhppcfdpcaaa
open Go.RowKit

/-- What the row's step tells of a slice of integers that came in: nil, or a row of 'cap' numbers of their kind. -/
def IsRow (k : IntKind) (w : World) (a : Option Addr) (len cap : Nat) (zs : List Int) : Prop :=
  (a = none ∧ len = 0 ∧ cap = 0 ∧ zs = []) ∨
  ∃ x, a = some x ∧ len ≤ cap ∧ cap ≤ maxLen ∧ zs.length = cap ∧ (∀ i, i < zs.length → w.cell? (x.add i) = some (.int k (zs.getD i 0))) ∧ ∀ n ∈ zs, (Lit.int k n).wf = true

/-- A slice of bytes at A reads as xs. -/
def RdB (w : World) (A : Option Addr) (xs : List UInt8) : Prop :=
  ∀ k, k < xs.length → ∃ b o, A = some ⟨b, o, none⟩ ∧ b < w.heap.size ∧ w.cell? ⟨b, o + k, none⟩ = some (.int .u8 ((xs.getD k 0).toNat : Int))

theorem RdB.nil {w : World} {A : Option Addr} : RdB w A [] := fun k hk => absurd hk (by simp)
theorem RdB.keep {w w' : World} {A : Option Addr} {xs : List UInt8} (h : RdB w A xs) (hs : w.heap.size ≤ w'.heap.size) (hk : ∀ p : Addr, p.block < w.heap.size → w'.cell? p = w.cell? p) : RdB w' A xs := by
  intro k hx
  obtain ⟨b, o, hA, hb, hc⟩ := h k hx
  exact ⟨b, o, hA, by omega, (hk _ hb).trans hc⟩
theorem RdB.below {w w' : World} {A : Option Addr} {xs : List UInt8} (h : RdB w A xs) (hb : Below w.heap.size w w') : RdB w' A xs :=
  h.keep hb.size fun _ hp => hb.cell hp
theorem RdB.take {w : World} {A : Option Addr} {xs : List UInt8} (h : RdB w A xs) (n : Nat) : RdB w A (xs.take n) := by
  intro k hk
  rw [List.length_take] at hk
  obtain ⟨b, o, hA, hb, hc⟩ := h k (by omega)
  refine ⟨b, o, hA, hb, ?_⟩
  rw [hc, List.getD_eq_getElem?_getD, List.getD_eq_getElem?_getD, List.getElem?_take_of_lt (by omega)]

theorem IsRow.bytes {w : World} {a : Option Addr} {len cap : Nat} {zs : List Int} (h : IsRow .u8 w a len cap zs) :
    ∃ xs : List UInt8, xs.length = len ∧ len ≤ cap ∧ cap ≤ maxLen ∧ RdB w a xs := by
  rcases h with ⟨rfl, rfl, rfl, rfl⟩ | ⟨x, rfl, hl, hm, hz, hc, hw⟩
  · exact ⟨[], rfl, Nat.le_refl _, Nat.zero_le _, RdB.nil⟩
  · refine ⟨(zs.take len).map fun z => UInt8.ofNat z.toNat, by rw [List.length_map, List.length_take]; omega, hl, hm, ?_⟩
    intro k hk
    rw [List.length_map, List.length_take] at hk
    have hk1 : k < zs.length := by omega
    have hck := hc k hk1
    obtain ⟨b, off, spot⟩ := x
    have hspot : spot = none := by simpa [Addr.add] using World.cell?_spot (hc 0 (by omega))
    subst hspot
    have hadd : (⟨b, off, none⟩ : Addr).add k = ⟨b, off + k, none⟩ := by
      unfold Addr.add
      split
      · rename_i h0; subst h0; rfl
      · rfl
    rw [hadd] at hck
    have hwf := bounds_u8 (hw zs[k] (List.getElem_mem hk1))
    have hg : zs.getD k 0 = zs[k] := by rw [List.getD_eq_getElem?_getD, List.getElem?_eq_getElem hk1]; rfl
    refine ⟨b, off, rfl, ?_, ?_⟩
    · rcases Nat.lt_or_ge b w.heap.size with hlt | hge
      · exact hlt
      · exfalso
        simp [World.cell?, Array.getElem?_eq_none hge] at hck
    · rw [hck, hg]
      congr 2
      rw [List.getD_eq_getElem?_getD, List.getElem?_map, List.getElem?_take_of_lt (by omega), List.getElem?_eq_getElem hk1]
      show zs[k] = ((UInt8.ofNat zs[k].toNat).toNat : Int)
      rw [UInt8.toNat_ofNat']
      omega
end Go.Proofs.Ytdglhppcfdpcaaa
namespace Go.Proofs.Ytdglhppcfdpcaaa
open Go.RowKit

/-- Block g is just the cells cs of the element type t, none frozen. -/
def Blk (w : World) (g : Nat) (t : TypeId) (cs : Array Value) : Prop := w.heap[g]? = some (.cells cs t (0, 0))
section
variable {w w' : World} {g : Nat} {t : TypeId} {cs : Array Value}
theorem Blk.lt (h : Blk w g t cs) : g < w.heap.size := by
  rcases Nat.lt_or_ge g w.heap.size with hlt | hge
  · exact hlt
  · unfold Blk at h; rw [Array.getElem?_eq_none hge] at h; cases h
theorem Blk.cell (h : Blk w g t cs) (i : Nat) : w.cell? ⟨g, i, none⟩ = cs[i]? := cell_of_row w g i cs t (0, 0) h
theorem Blk.frozen (h : Blk w g t cs) (i : Nat) : w.frozen? ⟨g, i, none⟩ = false := by
  unfold Blk at h
  simp [World.frozen?, h]
theorem Blk.new (w : World) (t : TypeId) (cs : Array Value) : Blk (w.alloc (.cells cs t)) w.heap.size t cs := heap_alloc_new w _
theorem Blk.alloc (h : Blk w g t cs) (o : Obj) : Blk (w.alloc o) g t cs := (Below.heap_alloc w o g h.lt).trans h
theorem Blk.far (h : Blk w g t cs) {p : Addr} (hp : g ≠ p.block) (u : Value) : Blk (w.setCell p u) g t cs := (Below.heap_setCell w p u g hp).trans h
theorem Blk.below {B : Nat} (h : Blk w g t cs) (hb : Below B w w') (hg : g < B) : Blk w' g t cs := (hb.block g hg).trans h
end
end Go.Proofs.Ytdglhppcfdpcaaa
