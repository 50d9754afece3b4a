/- An array of bytes that came in by value, opened. No program in sight. -/
import Derived.WideShapes
import Derived.OpenShut
import Derived.WideOpen
namespace Go.Proofs.Ytckhkagkpldoiaa
open Go Go.ChangeShapes Go.WideShapes Go.RowKit

def rawV (xs : List UInt8) : Array Value := (xs.map fun x => Value.int .u8 (x.toNat : Int)).toArray
theorem rawV_size (xs : List UInt8) : (rawV xs).size = xs.length := by unfold rawV; simp
theorem rawV_get (xs : List UInt8) {i : Nat} (h : i < xs.length) : (rawV xs)[i]? = some (.int .u8 ((xs.getD i 0).toNat : Int)) := by
  unfold rawV
  rw [List.getElem?_toArray, List.getElem?_map, List.getD_eq_getElem?_getD, List.getElem?_eq_getElem h]
  rfl
theorem rawV_set (xs : List UInt8) (i : Nat) (v : UInt8) : (rawV xs).setIfInBounds i (.int .u8 (v.toNat : Int)) = rawV (xs.set i v) := by
  unfold rawV
  rw [List.setIfInBounds_toArray, List.map_set]
theorem rawV_one (xs : List UInt8) : (rawV xs).all (·.oneCell') = true := by
  rw [Array.all_eq_true_iff_forall_mem]
  intro v hv
  unfold rawV at hv
  simp only [List.mem_toArray, List.mem_map] at hv
  obtain ⟨_, _, rfl⟩ := hv
  rfl
theorem rawV_inj {xs ys : List UInt8} (h : rawV xs = rawV ys) : xs = ys := by
  unfold rawV at h
  have h1 := List.toArray_inj h
  have : ∀ a b : List UInt8, (a.map fun x => Value.int .u8 (x.toNat : Int)) = (b.map fun x => Value.int .u8 (x.toNat : Int)) → a = b := by
    intro a
    induction a with
    | nil => intro b hb; cases b with
      | nil => rfl
      | cons _ _ => simp at hb
    | cons x a ih => intro b hb; cases b with
      | nil => simp at hb
      | cons y b =>
        simp only [List.map_cons, List.cons.injEq, Value.int.injEq, true_and] at hb
        have hxy : x = y := UInt8.toNat_inj.1 (by have := hb.1; omega)
        rw [ih b hb.2, hxy]
  exact this _ _ h1

theorem open_bytes {H : Type} {enc : TypeId × Value → H} {P : Program} {w : World} {base : Nat} {sp : Nat → Bool} {held : Bool} {r : Reach} {b0 : Nat} {t e : TypeId} {n : Nat} {v : Value} {d : DataW H} {p : List MemPlace}
    (ht : P.underlying t = some (.array n e)) (he : P.underlying e = some (.int .u8)) (hc : P.cellsOf e = 1) (hct : P.cellsOf t = n)
    (hv : Value.okWide P w r b0 t v) (h : DataW.Trod enc P w base sp held t v d p) : ∃ xs : List UInt8, xs.length = n ∧ v = .agg (rawV xs) := by
  simp only [Value.okWide, ht] at hv
  obtain ⟨cs, rfl, hs, _⟩ := hv
  obtain ⟨fuel, hf⟩ := h
  obtain ⟨xs, m, _, _, hl, hxl, hel⟩ := DataW.trod_array ht hf
  have hcl : (Value.agg cs).cells.toList = cs.toList := rfl
  have hall : ∀ i, i < n → ∃ z : UInt8, cs.toList[i]? = some (.int .u8 (z.toNat : Int)) := by
    intro i hi
    have h1 := hel i hi
    rw [List.getElem?_eq_getElem (by omega)] at h1
    obtain ⟨a, ea, _, wa⟩ := DataW.trod_int he h1
    rw [hc, Nat.mul_one] at ea
    have hb := bounds_u8 wa
    refine ⟨UInt8.ofNat a.toNat, ?_⟩
    have h2 : cs.toList[i]? = some (.int .u8 a) := by
      have h3 := congrArg (fun l => l[0]?) ea
      simp only [List.getElem?_take_of_lt (show 0 < 1 by omega), List.getElem?_drop, Nat.add_zero] at h3
      exact h3
    rw [h2, UInt8.toNat_ofNat']
    congr 2
    omega
  refine ⟨cs.toList.map (fun v => match v with | .int _ z => UInt8.ofNat z.toNat | _ => 0), by simp [hs, hct], ?_⟩
  have hlst : cs.toList = (cs.toList.map (fun v => match v with | .int _ z => UInt8.ofNat z.toNat | _ => 0)).map fun x => Value.int .u8 (x.toNat : Int) := by
    apply List.ext_getElem?
    intro i
    rw [List.getElem?_map, List.getElem?_map]
    by_cases hi : i < n
    · obtain ⟨z, hz⟩ := hall i hi
      rw [hz]
      simp
    · rw [List.getElem?_eq_none (by rw [Array.length_toList, hs, hct]; omega)]
      rfl
  unfold rawV
  rw [← hlst, Array.toArray_toList]
end Go.Proofs.Ytckhkagkpldoiaa
