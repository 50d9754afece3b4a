/- append of bytes to a row that is known: in place, or in a new block. -/
import Derived.Test.YtdgflbbffimpkaaPolyB
import Derived.Laws.Append
import Derived.Laws.OwnMore
namespace Go.Proofs.Ytdgflbbffimpkaa
open Go.RowKit Go.Shelf
set_option linter.unusedVariables false

theorem rd_cells {w : World} {ad : Addr} {ys : List UInt8} (hr : RdB w (some ad) ys) : ∀ j u, (ys.map vU)[j]? = some u → w.cell? (ad.add j) = some u := by
  intro j u hj
  rw [List.getElem?_map] at hj
  cases hy : ys[j]? with
  | none => rw [hy] at hj; cases hj
  | some y =>
    rw [hy] at hj
    obtain rfl := Option.some.inj hj
    obtain ⟨hlt, hye⟩ := List.getElem?_eq_some_iff.1 hy
    obtain ⟨b, o, hAe, _, hc⟩ := hr j hlt
    obtain rfl := Option.some.inj hAe
    have hadd : (⟨b, o, none⟩ : Addr).add j = ⟨b, o + j, none⟩ := by
      unfold Addr.add
      split
      · rename_i h0; subst h0; rfl
      · rfl
    rw [hadd, hc, List.getD_eq_getElem?_getD, hy]
    rfl
theorem vU_one : ∀ (ys : List UInt8), ∀ u ∈ ys.map vU, u.oneCell' = true := fun ys u hu => by obtain ⟨y, _, rfl⟩ := List.mem_map.1 hu; rfl
theorem zeroCells_list (n : Nat) : (Builtin.zeroCells #[Value.int .u8 0] n).toList.length = n := by rw [Array.length_toList, size_zeroCells]; simp
/-- In place. -/
theorem run_app_room {w : World} {g : Nat} {xs ys : List UInt8} {rest : List Value} {ad : Addr} {c : Nat} (hb : Blk w g 5 (rowV xs rest)) (hr : RdB w (some ad) ys) (hl : ys.length ≤ rest.length) (ty : TypeId) :
    (Builtin.append_ #[52, 52] ty #[.slice (some ⟨g, 0, none⟩) xs.length (xs.length + rest.length), .slice (some ad) ys.length c]).run Try.prog w = .ok (.slice (some ⟨g, 0, none⟩) (xs.length + ys.length) (xs.length + rest.length)) (w.setRow g (rowV (xs ++ ys) (rest.drop ys.length))) := by
  obtain ⟨i0, hi, hz0, hz1, hz2⟩ := info_parts infoU8
  have h := run_append_room (P := Try.prog) w 52 ty 5 i0 Try.underlying52 hi g xs.length (xs.length + rest.length) (rowV xs rest) hb ad ys.length c (ys.map vU) (by simp [hz1]) (rd_cells hr) (vU_one ys) (by omega) (by rw [hz1, rowV_size]; simp; omega)
  rw [h, hz1]
  congr 2
  unfold rowV
  congr 1
  simp only [Nat.mul_one, List.length_map, List.map_append]
  rw [List.take_append_of_le_length (by simp), List.take_of_length_le (by simp)]
  congr 1
  rw [List.drop_append]
  simp
/-- In a new block. -/
theorem run_app_grow {w : World} {g : Nat} {xs ys : List UInt8} {rest : List Value} {ad : Addr} {c : Nat} (hb : Blk w g 5 (rowV xs rest)) (hr : RdB w (some ad) ys) (hl : rest.length < ys.length) (hs : xs.length + ys.length ≤ 1000000) :
    ∃ rest', xs.length + ys.length + rest'.length ≤ maxLen ∧ ∀ ty, (Builtin.append_ #[52, 52] ty #[.slice (some ⟨g, 0, none⟩) xs.length (xs.length + rest.length), .slice (some ad) ys.length c]).run Try.prog w = .ok (.slice (some ⟨w.heap.size, 0, none⟩) (xs.length + ys.length) (xs.length + ys.length + rest'.length)) (w.drew.alloc (.cells (rowV (xs ++ ys) rest') 5)) := by
  obtain ⟨i0, hi, hz0, hz1, hz2⟩ := info_parts infoU8
  have hge := grownCap_ge w (xs.length + ys.length) (xs.length + rest.length) 5
  have hcm := grownCap_le_maxLen w (xs.length + ys.length) (xs.length + rest.length) 5 (by unfold maxLen; omega)
  obtain ⟨G, hG⟩ : ∃ G, grownCap w (xs.length + ys.length) (xs.length + rest.length) 5 = G := ⟨_, rfl⟩
  have hlr : (Builtin.zeroCells (Value.int .u8 0).cells (G - (xs.length + ys.length))).toList.length = G - (xs.length + ys.length) := zeroCells_list _
  rw [hG] at hge hcm
  refine ⟨(Builtin.zeroCells (Value.int .u8 0).cells (G - (xs.length + ys.length))).toList, by rw [hlr]; omega, fun ty => ?_⟩
  have h := run_append_grow (P := Try.prog) w 52 ty 5 i0 (.int .u8 0) Try.underlying52 hi hz0 ⟨g, 0, none⟩ xs.length (xs.length + rest.length) (xs.map vU) (by simp [hz1]) (rd_cells (RdB.row hb)) ad ys.length c (ys.map vU) (by simp [hz1]) (rd_cells hr) (by omega) (by omega) (by
    have := growslice_fits (need := xs.length + ys.length) (old := xs.length + rest.length) (bytes := i0.bytes) (by omega) (by rw [hz2]; omega)
    exact this)
  rw [h, hG, hlr]
  have e1 : xs.length + ys.length + (G - (xs.length + ys.length)) = G := by omega
  rw [e1]
  congr 3
  unfold rowV
  simp
/-- To none. -/
theorem run_app_nil {w : World} {ys : List UInt8} {ad : Addr} {c : Nat} (hr : RdB w (some ad) ys) (h0 : 0 < ys.length) (hs : ys.length ≤ 1000000) :
    ∃ rest', ys.length + rest'.length ≤ maxLen ∧ ∀ ty, (Builtin.append_ #[52, 52] ty #[.slice none 0 0, .slice (some ad) ys.length c]).run Try.prog w = .ok (.slice (some ⟨w.heap.size, 0, none⟩) ys.length (ys.length + rest'.length)) (w.drew.alloc (.cells (rowV ys rest') 5)) := by
  obtain ⟨i0, hi, hz0, hz1, hz2⟩ := info_parts infoU8
  have hge := grownCap_ge w ys.length 0 5
  have hcm := grownCap_le_maxLen w ys.length 0 5 (by unfold maxLen; omega)
  obtain ⟨G, hG⟩ : ∃ G, grownCap w ys.length 0 5 = G := ⟨_, rfl⟩
  have hlr : (Builtin.zeroCells (Value.int .u8 0).cells (G - ys.length)).toList.length = G - ys.length := zeroCells_list _
  rw [hG] at hge hcm
  refine ⟨(Builtin.zeroCells (Value.int .u8 0).cells (G - ys.length)).toList, by rw [hlr]; omega, fun ty => ?_⟩
  have h := run_append_nil (P := Try.prog) w 52 ty 5 i0 (.int .u8 0) Try.underlying52 hi hz0 ad ys.length c (ys.map vU) (by simp [hz1]) (rd_cells hr) h0 (by omega) (by rw [hz2]; omega)
  rw [h, hG, hlr]
  have e1 : ys.length + (G - ys.length) = G := by omega
  rw [e1]
  congr 3
  unfold rowV
  simp
end Go.Proofs.Ytdgflbbffimpkaa
