/- bytes.Clone: what it hands back reads the same, in memory of the call's own. -/
import Derived.Ground.SlbCloneProg
import Derived.Shelf.Abstract
import Derived.Shelf.Bytes.SlClone
import Derived.Test.YtdgflbbffimpkaaMemP
namespace Go.Proofs.Ytdgflbbffimpkaa
open Go.RowKit Go.Shelf Go.Lib

def bclone_ren : Go.Shelf.Ren := ⟨fun | 4 => 38 | n => n, fun | 22 => 52 | 4 => 4 | 5 => 5 | n => n, fun | n => n⟩
theorem bclone : Go.Proofs.SlLaysK.n4 Try.prog bclone_ren := {
  mixed := by kernel_rfl
  f4 := Try.func38.trans (congrArg some (by kernel_rfl))
  t4 := Try.underlying4
  a4 := Try.isAgg4
  z4 := Try.sizeOf4
  v4 := Try.zeroValue4
  t22 := Try.underlying52
  a22 := Try.isAgg52
  z22 := Try.sizeOf52
  v22 := Try.zeroValue52
  t5 := Try.underlying5
  i5 := by kernel_rfl }

/-- The clone of n bytes: nil, or a row of its own. -/
def OwnedB (w : World) (B : Nat) (A : Option Addr) (xs : List UInt8) : Prop :=
  (A = none ∧ xs = []) ∨ ∃ g cs, A = some ⟨g, 0, none⟩ ∧ B ≤ g ∧ Blk w g 5 cs ∧ ∀ k, k < xs.length → cs[k]? = some (.int .u8 ((xs.getD k 0).toNat : Int))

theorem clone_any (A : Option Addr) (n c : Nat) (xs : List UInt8) (hn : xs.length = n) (hbig : n ≤ 140737488355328) (w : World) (hx : RdB w A xs) :
    Calls Try.prog 38 #[.slice A n c] w fun e w' => ∃ A' c', e = .returned (.slice A' n c') ∧ OwnedB w' w.heap.size A' xs ∧ RdB w' A' xs ∧ Below w.heap.size w w' := by
  cases A with
  | none =>
    obtain rfl : n = 0 := by
      rcases Nat.eq_zero_or_pos n with h | h
      · exact h
      · obtain ⟨b, o, hA, _⟩ := hx 0 (by omega); cases hA
    have hnil : xs = [] := List.length_eq_zero_iff.1 hn
    subst hnil
    refine (Any.bytes_Clone_nil bclone 0 c w).mono ?_
    rintro e w' ⟨rfl, rfl⟩
    exact ⟨none, 0, rfl, .inl ⟨rfl, rfl⟩, RdB.nil, Below.refl _ _⟩
  | some a =>
    refine (Any.bytes_Clone_at bclone a n c (xs.map fun x => (x.toNat : Int)) w (by rw [List.length_map]; exact hn) hbig ?_).mono ?_
    · intro i hi
      obtain ⟨b, o, hA, _, hc⟩ := hx i (by omega)
      cases hA
      have hadd : (⟨b, o, none⟩ : Addr).add i = ⟨b, o + i, none⟩ := by
        unfold Addr.add
        split
        · rename_i h0; subst h0; rfl
        · rfl
      rw [hadd, hc, List.getD_eq_getElem?_getD, List.getD_eq_getElem?_getD, List.getElem?_map, List.getElem?_eq_getElem (by omega)]
      rfl
    · rintro e w' ⟨v', rfl, ⟨_, hv⟩, hnn, hb⟩
      rcases hv with ⟨h, _⟩ | ⟨g, cap, cur, rfl, hg, hh, _, _, _, ht⟩
      · exact absurd h hnn
      · have hcs : ∀ k, k < xs.length → cur[k]? = some (.int .u8 ((xs.getD k 0).toNat : Int)) := by
          intro k hk
          have e1 := congrArg (fun l => l[k]?) ht
          rw [List.getElem?_take_of_lt (by omega)] at e1
          rw [← Array.getElem?_toList, e1]
          simp [List.getElem?_eq_getElem hk, List.getD_eq_getElem?_getD]
        exact ⟨_, cap, rfl, .inr ⟨g, cur, rfl, hg, hh, hcs⟩, RdB.ofBlk hh hcs, hb⟩
end Go.Proofs.Ytdgflbbffimpkaa
