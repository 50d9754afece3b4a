/- Several texts in one: Arr BitG ArrO RawW RawI RawD RawQ BitX BitDf RawU RawC ArrL RawE. -/
import Derived.Test.YtdglhppcfdpcaaaMmX
import Derived.Laws.Rows
import Derived.Laws.CopyRow
import Derived.Laws.CopyOwn
import Derived.OwnWalkIn
import Derived.TacticsInMore
import Derived.Test.YtdglhppcfdpcaaaBtX
import Derived.WideShapes
import Derived.OpenShut
import Derived.WideOpen
import Derived.WalkKit
import Derived.Lib.Hide
import Derived.Laws.AppendOwn
import Derived.StillTailTactics
import Derived.Test.YtdglhppcfdpcaaaRfX
import Derived.Shelf.Abstract
import Derived.LoopNIn
import Derived.LoopIn
import Derived.Laws.StructEq
import Derived.ChangeKeysEq
import Derived.Sort.BigQuietIn
import Derived.Sort.CutIn
import Derived.Lib.Agree
import Derived.Deep.WholeRow
import Derived.Deep.RegionWith
import Derived.Deep.CutRange
namespace Go.Proofs.Ytdglhppcfdpcaaa
open Go Go.RowKit

section
variable {w : World} {g : Nat} {t : TypeId} {cs cur : Array Value}
theorem Blk.setRow (h : Blk w g t cur) (cs : Array Value) : Blk (w.setRow g cs) g t cs := setRow_heap w g cur cs t (0, 0) h
end

end Go.Proofs.Ytdglhppcfdpcaaa
namespace Go.Proofs.Ytdglhppcfdpcaaa
open Go.RowKit

end Go.Proofs.Ytdglhppcfdpcaaa
namespace Go.Proofs.Ytdglhppcfdpcaaa
open Go Go.ChangeShapes Go.WideShapes Go.RowKit

def rawV (xs : List UInt8) : Array Value := (xs.map fun x => Value.int .u8 (x.toNat : Int)).toArray
theorem open_bytes {H : Type} {enc : TypeId × Value → H} {P : Program} {w : World} {base : Nat} {sp : Nat → Bool} {held : Bool} {r : Reach} {b0 : Nat} {t e : TypeId} {n : Nat} {v : Value} {d : DataW H} {p : List MemPlace}
    (ht : P.underlying t = some (.array n e)) (he : P.underlying e = some (.int .u8)) (hc : P.cellsOf e = 1) (hct : P.cellsOf t = n)
    (hv : Value.okWide P w r b0 t v) (h : DataW.Trod enc P w base sp held t v d p) : ∃ xs : List UInt8, xs.length = n ∧ v = .agg (rawV xs) := by
  simp only [Value.okWide, ht] at hv
  obtain ⟨cs, rfl, hs, _⟩ := hv
  obtain ⟨fuel, hf⟩ := h
  obtain ⟨xs, m, _, _, hl, hxl, hel⟩ := DataW.trod_array ht hf
  have hcl : (Value.agg cs).cells.toList = cs.toList := rfl
  have hall : ∀ i, i < n → ∃ z : UInt8, cs.toList[i]? = some (.int .u8 (z.toNat : Int)) := by
    intro i hi
    have h1 := hel i hi
    rw [List.getElem?_eq_getElem (by omega)] at h1
    obtain ⟨a, ea, _, wa⟩ := DataW.trod_int he h1
    rw [hc, Nat.mul_one] at ea
    have hb := bounds_u8 wa
    refine ⟨UInt8.ofNat a.toNat, ?_⟩
    have h2 : cs.toList[i]? = some (.int .u8 a) := by
      have h3 := congrArg (fun l => l[0]?) ea
      simp only [List.getElem?_take_of_lt (show 0 < 1 by omega), List.getElem?_drop, Nat.add_zero] at h3
      exact h3
    rw [h2, UInt8.toNat_ofNat']
    congr 2
    omega
  refine ⟨cs.toList.map (fun v => match v with | .int _ z => UInt8.ofNat z.toNat | _ => 0), by simp [hs, hct], ?_⟩
  have hlst : cs.toList = (cs.toList.map (fun v => match v with | .int _ z => UInt8.ofNat z.toNat | _ => 0)).map fun x => Value.int .u8 (x.toNat : Int) := by
    apply List.ext_getElem?
    intro i
    rw [List.getElem?_map, List.getElem?_map]
    by_cases hi : i < n
    · obtain ⟨z, hz⟩ := hall i hi
      rw [hz]
      simp
    · rw [List.getElem?_eq_none (by rw [Array.length_toList, hs, hct]; omega)]
      rfl
  unfold rawV
  rw [← hlst, Array.toArray_toList]
end Go.Proofs.Ytdglhppcfdpcaaa
namespace Go.Proofs.Ytdglhppcfdpcaaa
open Go.RowKit

def chN (mode : Int) : Nat := if mode = 1 then 9 else if mode = 2 then 36 else 0
def wdN (mode : Int) : Nat := if mode = 1 then 8 else if mode = 2 then 2 else 0
end Go.Proofs.Ytdglhppcfdpcaaa
namespace Go.Proofs.Ytdglhppcfdpcaaa
open Go.RowKit Go.Shelf
attribute [local go_sem] Oper.semAt_some

end Go.Proofs.Ytdglhppcfdpcaaa
namespace Go.Proofs.Ytdglhppcfdpcaaa
open Go.RowKit

/-- A word's bytes. -/
def wordB (mode : Int) (xs : List UInt8) (word : Int) : List UInt8 := if 0 ≤ word ∧ word < wdN mode then (xs.drop (chN mode * word.toNat)).take (chN mode) else []
theorem infoRaw : (Try.prog.info? 50).map (·.size) = some 72 := by kernel_rfl
end Go.Proofs.Ytdglhppcfdpcaaa
namespace Go.Proofs.Ytdglhppcfdpcaaa
open Go.RowKit

end Go.Proofs.Ytdglhppcfdpcaaa
namespace Go.Proofs.Ytdglhppcfdpcaaa
open Go.RowKit

end Go.Proofs.Ytdglhppcfdpcaaa
namespace Go.Proofs.Ytdglhppcfdpcaaa
open Go.RowKit

/-- The unlike bits of the first k pairs of bytes. -/
def dfB (xs ys : List UInt8) : Nat → Nat
  | 0 => 0
  | k + 1 => dfB xs ys k + pc (xs.getD k 0 ^^^ ys.getD k 0).toNat
def dI (xs ys : List UInt8) : Nat := 8 * (max xs.length ys.length - min xs.length ys.length) + dfB xs ys (min xs.length ys.length)

end Go.Proofs.Ytdglhppcfdpcaaa
namespace Go.Proofs.Ytdglhppcfdpcaaa
open Go.RowKit

/-- The unlike bytes of the first k pairs. -/
def ulB (xs ys : List UInt8) : Nat → Nat
  | 0 => 0
  | k + 1 => ulB xs ys k + if xs.getD k 0 = ys.getD k 0 then 0 else 1
def ul (mode : Int) (xs ys : List UInt8) : Nat := if mode = 1 then dI xs ys else ulB xs ys xs.length

end Go.Proofs.Ytdglhppcfdpcaaa
namespace Go.Proofs.Ytdglhppcfdpcaaa
open Go.RowKit Go.Shelf
attribute [local go_sem] Oper.semAt_some

end Go.Proofs.Ytdglhppcfdpcaaa
namespace Go.Proofs.Ytdglhppcfdpcaaa
open Go.RowKit

def rowAt (W : World) (a : Addr) : Option (Array Value) := match a with
  | ⟨g, 0, none⟩ => (match W.heap[g]? with
    | some (.cells cs _ (0, 0)) => if cs.size = 72 then some cs else none
    | _ => none)
  | _ => none
def slowVar (t : TypeId) (a : Addr) : Sem Value := loadVar t a
theorem load_row_down (W : World) (a : Addr) : (loadVar 50 a).run Try.prog W = match rowAt W a with
    | some cs => .ok (.agg cs) W
    | none => (slowVar 50 a).run Try.prog W := by
  cases h : rowAt W a with
  | none => rfl
  | some cs =>
    unfold rowAt at h
    split at h
    · split at h
      · rename_i g _ cs' t hc
        split at h
        · rename_i hs
          cases h
          have hi : (Try.prog.info? 50).map (·.size) = some cs.size := by rw [hs]; exact infoRaw
          exact run_loadVar_row (P := Try.prog) W g t 50 cs (0, 0) _ hc Try.underlying50 rfl hi
        · cases h
      · cases h
    · cases h
theorem Blk.row {W : World} {g : Nat} {t : TypeId} {cs : Array Value} (h : Blk W g t cs) (hs : cs.size = 72) : rowAt W ⟨g, 0, none⟩ = some cs := by
  unfold rowAt
  simp only [show W.heap[g]? = some (.cells cs t (0, 0)) from h]
  exact if_pos hs
theorem load_var_step {P : Program} (t : TypeId) (W : World) (a : Addr) : (loadVar t a).run P W = ((isAgg t).run P W).andThen fun b w' => if b then ((sizeOf t).run P w').andThen (fun n w2 => ((loadCells a n).run P w2).andThen fun cs w3 => .ok (.agg cs) w3) else (load a).run P w' := by
  unfold loadVar
  rw [Sem.run_bind]
  congr 1
  funext b w'
  cases b <;> simp [Sem.run_bind]
end Go.Proofs.Ytdglhppcfdpcaaa
namespace Go.Proofs.Ytdglhppcfdpcaaa
open Go.RowKit
attribute [-go_sem] loadVar
attribute [local go_sem high] load_row_down
attribute [local go_sem low] load_var_step

/-- How much two are exposed to one another: over the first k words, and over all. -/
def exP (mode : Int) (xs ys : List UInt8) : Nat → Nat
  | 0 => 0
  | k + 1 => max (exP mode xs ys k) (ul mode (wordB mode xs (k : Int)) (wordB mode ys (k : Int)))
def expo (mode : Int) (xs ys : List UInt8) : Nat := exP mode xs ys (wdN mode)
def At2 (w : World) (b0 : Nat) (cv dv : Array Value) (W : World) : Prop := Blk W b0 50 cv ∧ Blk W (b0 + 1) 50 dv ∧ Below b0 w W ∧ b0 + 2 ≤ W.heap.size
theorem At2.below {w : World} {b0 : Nat} {cv dv : Array Value} {W W' : World} (h : At2 w b0 cv dv W) (hb : Below W.heap.size W W') : At2 w b0 cv dv W' := by
  obtain ⟨h0, h1, h2, h3⟩ := h
  exact ⟨h0.below hb (by omega), h1.below hb (by omega), h2.trans (hb.mono (by omega)), Nat.le_trans h3 hb.size⟩

end Go.Proofs.Ytdglhppcfdpcaaa
