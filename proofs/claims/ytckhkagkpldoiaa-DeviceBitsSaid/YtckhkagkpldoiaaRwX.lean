/- Several texts in one: Arr BitG ArrO RawW RawI RawD RawQ BitX BitDf RawU RawC ArrL RawE. -/
import Derived.Test.YtckhkagkpldoiaaMmX
import Derived.Laws.Rows
import Derived.Laws.CopyRow
import Derived.Laws.CopyOwn
import Derived.OwnWalkIn
import Derived.TacticsInMore
import Derived.Test.YtckhkagkpldoiaaBtX
import Derived.WideShapes
import Derived.OpenShut
import Derived.WideOpen
import Derived.WalkKit
import Derived.Lib.Hide
import Derived.Laws.AppendOwn
import Derived.StillTailTactics
import Derived.Test.YtckhkagkpldoiaaRfX
import Derived.Shelf.Abstract
import Derived.LoopNIn
import Derived.LoopIn
import Derived.Laws.StructEq
import Derived.ChangeKeysEq
import Derived.Sort.BigQuietIn
import Derived.Sort.CutIn
import Derived.Lib.Agree
import Derived.Deep.WholeRow
import Derived.Deep.RegionWith
import Derived.Deep.CutRange
namespace Go.Proofs.Ytckhkagkpldoiaa
open Go Go.RowKit

section
variable {w : World} {g : Nat} {t : TypeId} {cs cur : Array Value}
theorem Blk.setRow (h : Blk w g t cur) (cs : Array Value) : Blk (w.setRow g cs) g t cs := setRow_heap w g cur cs t (0, 0) h
end

/-- A load and a store inside a fence, by what the variable's load and store run to. -/
theorem wpListIn_load_at {F : Fence} {n : Nat} {P : Program} {ops : Array Oper} {Q : Exit → Act → World → Prop} {a : Act} {w : World} {rest : List Oper} {o : Oper} (hgd : o.guard = none) (ty : TypeId) (x : Operand) (ho : o.op = .load ty x) (p : Addr)
    (hx : a.eval x = .pointer (some p)) (v : Value) (hr : (loadVar ty p).run P w = .ok v w) (h : wpListIn F n P ops Q rest (a.put o.dst v) w) : wpListIn F n P ops Q (o :: rest) a w := by
  refine wpListIn_plain hgd fun K hK => ?_
  unfold Oper.wpIn
  refine ⟨fun f hf => by simp [Oper.about, ho] at hf, ?_⟩
  rw [Oper.semAt_plain F a.eval o (fun c hc => by rw [ho] at hc; cases hc)]
  unfold execOp
  simp only [ho, hx, Instr.loadAt, Instr.sureAddr, Sem.run_bind, Sem.run_pure, Result.andThen_ok, hr]
  exact hK _ _ h
theorem wpListIn_store_at {F : Fence} {n : Nat} {P : Program} {ops : Array Oper} {Q : Exit → Act → World → Prop} {a : Act} {w w' : World} {rest : List Oper} {o : Oper} (hgd : o.guard = none) (ty : TypeId) (x y : Operand) (ho : o.op = .store ty x y) (p : Addr)
    (hx : a.eval x = .pointer (some p)) (v : Value) (hy : a.eval y = v) (hr : (storeVar ty p v).run P w = .ok () w') (h : wpListIn F n P ops Q rest (a.put o.dst undef) w') : wpListIn F n P ops Q (o :: rest) a w := by
  refine wpListIn_plain hgd fun K hK => ?_
  unfold Oper.wpIn
  refine ⟨fun f hf => by simp [Oper.about, ho] at hf, ?_⟩
  rw [Oper.semAt_plain F a.eval o (fun c hc => by rw [ho] at hc; cases hc)]
  unfold execOp
  simp only [ho, hx, hy, Instr.storeAt, Instr.sureAddr, Sem.run_bind, Sem.run_pure, Result.andThen_ok, hr]
  exact hK _ _ h
end Go.Proofs.Ytckhkagkpldoiaa
namespace Go.Proofs.Ytckhkagkpldoiaa
open Go.RowKit

/-- Bit i of a list of bytes; none beyond it, and none below. -/
def bitI (xs : List UInt8) (i : Int) : Nat := if i < 0 then 0 else (xs.getD (i.toNat / 8) 0).toNat / 2 ^ (i.toNat % 8) % 2
theorem bitI_neg {xs : List UInt8} {i : Int} (h : i < 0) : bitI xs i = 0 := if_pos h
theorem bitI_nat (xs : List UInt8) (p : Nat) : bitI xs (p : Int) = (xs.getD (p / 8) 0).toNat / 2 ^ (p % 8) % 2 := by
  unfold bitI; rw [if_neg (by omega)]; rfl
theorem bitI_far {xs : List UInt8} {p : Nat} (h : xs.length ≤ p / 8) : bitI xs (p : Int) = 0 := by
  rw [bitI_nat, List.getD_eq_getElem?_getD, List.getElem?_eq_none h]; simp
theorem i64_and1g (n : Nat) (h : n < 9223372036854775808) : bits .and .i64 (n : Int) 1 = ((n % 2 : Nat) : Int) := by
  have h2 : ∀ c : Nat, c < 9223372036854775808 → (BitVec.ofInt 64 (c : Int)).toNat = c := by
    intro c hc
    rw [BitVec.ofInt_natCast, BitVec.toNat_ofNat]; exact Nat.mod_eq_of_lt (by omega)
  show IntKind.i64.wrap ((BitVec.ofInt 64 (n : Int) &&& BitVec.ofInt 64 ((1 : Nat) : Int)).toNat : Int) = _
  rw [BitVec.toNat_and, h2 n h, h2 1 (by omega), IntKind.wrap_i64, Nat.and_one_is_mod]
  omega
theorem i64_and7 (p : Nat) (h : p < 9223372036854775808) : bits .and .i64 (p : Int) 7 = ((p % 8 : Nat) : Int) := by
  have h64 : ∀ c : Nat, c < 9223372036854775808 → (BitVec.ofInt 64 (c : Int)).toNat = c := by
    intro c hc
    rw [BitVec.ofInt_natCast, BitVec.toNat_ofNat]; exact Nat.mod_eq_of_lt (by omega)
  show IntKind.i64.wrap ((BitVec.ofInt 64 (p : Int) &&& BitVec.ofInt 64 ((7 : Nat) : Int)).toNat : Int) = _
  rw [BitVec.toNat_and, h64 _ h, h64 7 (by omega), show p &&& 7 = p % 8 from Nat.and_two_pow_sub_one_eq_mod p 3]
  rw [IntKind.wrap_i64]; omega

set_option maxRecDepth 100000 in
theorem get_any (A : Option Addr) (n c : Nat) (xs : List UInt8) (hn : xs.length = n) (i : Int) (h0 : -9223372036854775808 ≤ i) (h1 : i ≤ 9223372036854775807) (w : World) (hx : RdB w A xs) :
    Calls Try.prog 94 #[.slice A n c, .int .i64 i] w fun e w' => e = .returned (.int .i64 (bitI xs i : Nat)) ∧ w = w' := by
  have HX := Lib.hid hx
  have HN := Lib.hid hn
  clear hx hn
  by_cases hi : i < 0
  · have HB := Lib.hid (bitI_neg (xs := xs) hi)
    go_enter Try.func94, Try.ntmps94
    go_wp2
    go_ret
    exact ⟨by rw [HB.out]; rfl, rfl⟩
  · obtain ⟨p, rfl⟩ := Int.eq_ofNat_of_zero_le (show 0 ≤ i by omega)
    clear hi h0
    by_cases hp : p / 8 < n
    · obtain ⟨b, o, rfl, _, hc⟩ := HX.out (p / 8) (by rw [HN.out]; exact hp)
      obtain ⟨x, hxx⟩ : ∃ x, (xs.getD (p / 8) 0).toNat = x := ⟨_, rfl⟩
      have lx : x < 256 := by rw [← hxx]; exact UInt8.toNat_lt _
      have hb := bitI_nat xs p
      rw [hxx] at hc hb
      clear hxx
      have i1 : (p : Int) / 8 < (n : Int) := by omega
      have m1 := i64_and7 p (by omega)
      obtain ⟨r, hr⟩ : ∃ r, p % 8 = r := ⟨_, rfl⟩
      have hrl : r < 8 := by omega
      have hmin : min r 8 = r := by omega
      rw [hr] at m1 hb
      have hY0 : ((x : Int) / 2 ^ r) = ((x / 2 ^ r : Nat) : Int) := by simp
      obtain ⟨Y, hY⟩ : ∃ Y, x / 2 ^ r = Y := ⟨_, rfl⟩
      have hYl : Y ≤ x := by rw [← hY]; exact Nat.div_le_self _ _
      rw [hY] at hY0 hb
      have a1 := i64_and1g Y (by omega)
      obtain ⟨v, hv⟩ : ∃ v, Y % 2 = v := ⟨_, rfl⟩
      rw [hv] at a1 hb
      have HB := Lib.hid hb
      clear hb hr hY hv
      go_enter Try.func94, Try.ntmps94
      go_wp2
      go_ret
      exact ⟨by rw [HB.out]; rfl, rfl⟩
    · have HB := Lib.hid (bitI_far (xs := xs) (p := p) (by rw [HN.out]; omega))
      have i1 : ¬ ((p : Int) / 8 < (n : Int)) := by omega
      go_enter Try.func94, Try.ntmps94
      go_wp2
      go_ret
      exact ⟨by rw [HB.out]; rfl, rfl⟩
end Go.Proofs.Ytckhkagkpldoiaa
namespace Go.Proofs.Ytckhkagkpldoiaa
open Go Go.ChangeShapes Go.WideShapes Go.RowKit

def rawV (xs : List UInt8) : Array Value := (xs.map fun x => Value.int .u8 (x.toNat : Int)).toArray
theorem rawV_size (xs : List UInt8) : (rawV xs).size = xs.length := by unfold rawV; simp
theorem rawV_get (xs : List UInt8) {i : Nat} (h : i < xs.length) : (rawV xs)[i]? = some (.int .u8 ((xs.getD i 0).toNat : Int)) := by
  unfold rawV
  rw [List.getElem?_toArray, List.getElem?_map, List.getD_eq_getElem?_getD, List.getElem?_eq_getElem h]
  rfl
theorem rawV_set (xs : List UInt8) (i : Nat) (v : UInt8) : (rawV xs).setIfInBounds i (.int .u8 (v.toNat : Int)) = rawV (xs.set i v) := by
  unfold rawV
  rw [List.setIfInBounds_toArray, List.map_set]
theorem rawV_one (xs : List UInt8) : (rawV xs).all (·.oneCell') = true := by
  rw [Array.all_eq_true_iff_forall_mem]
  intro v hv
  unfold rawV at hv
  simp only [List.mem_toArray, List.mem_map] at hv
  obtain ⟨_, _, rfl⟩ := hv
  rfl
theorem open_bytes {H : Type} {enc : TypeId × Value → H} {P : Program} {w : World} {base : Nat} {sp : Nat → Bool} {held : Bool} {r : Reach} {b0 : Nat} {t e : TypeId} {n : Nat} {v : Value} {d : DataW H} {p : List MemPlace}
    (ht : P.underlying t = some (.array n e)) (he : P.underlying e = some (.int .u8)) (hc : P.cellsOf e = 1) (hct : P.cellsOf t = n)
    (hv : Value.okWide P w r b0 t v) (h : DataW.Trod enc P w base sp held t v d p) : ∃ xs : List UInt8, xs.length = n ∧ v = .agg (rawV xs) := by
  simp only [Value.okWide, ht] at hv
  obtain ⟨cs, rfl, hs, _⟩ := hv
  obtain ⟨fuel, hf⟩ := h
  obtain ⟨xs, m, _, _, hl, hxl, hel⟩ := DataW.trod_array ht hf
  have hcl : (Value.agg cs).cells.toList = cs.toList := rfl
  have hall : ∀ i, i < n → ∃ z : UInt8, cs.toList[i]? = some (.int .u8 (z.toNat : Int)) := by
    intro i hi
    have h1 := hel i hi
    rw [List.getElem?_eq_getElem (by omega)] at h1
    obtain ⟨a, ea, _, wa⟩ := DataW.trod_int he h1
    rw [hc, Nat.mul_one] at ea
    have hb := bounds_u8 wa
    refine ⟨UInt8.ofNat a.toNat, ?_⟩
    have h2 : cs.toList[i]? = some (.int .u8 a) := by
      have h3 := congrArg (fun l => l[0]?) ea
      simp only [List.getElem?_take_of_lt (show 0 < 1 by omega), List.getElem?_drop, Nat.add_zero] at h3
      exact h3
    rw [h2, UInt8.toNat_ofNat']
    congr 2
    omega
  refine ⟨cs.toList.map (fun v => match v with | .int _ z => UInt8.ofNat z.toNat | _ => 0), by simp [hs, hct], ?_⟩
  have hlst : cs.toList = (cs.toList.map (fun v => match v with | .int _ z => UInt8.ofNat z.toNat | _ => 0)).map fun x => Value.int .u8 (x.toNat : Int) := by
    apply List.ext_getElem?
    intro i
    rw [List.getElem?_map, List.getElem?_map]
    by_cases hi : i < n
    · obtain ⟨z, hz⟩ := hall i hi
      rw [hz]
      simp
    · rw [List.getElem?_eq_none (by rw [Array.length_toList, hs, hct]; omega)]
      rfl
  unfold rawV
  rw [← hlst, Array.toArray_toList]
end Go.Proofs.Ytckhkagkpldoiaa
namespace Go.Proofs.Ytckhkagkpldoiaa
open Go.RowKit

def chN (mode : Int) : Nat := if mode = 1 then 9 else if mode = 2 then 36 else 0
def wdN (mode : Int) : Nat := if mode = 1 then 8 else if mode = 2 then 2 else 0
theorem modes (mode : Int) : mode = 1 ∨ mode = 2 ∨ (mode ≠ 1 ∧ mode ≠ 2) := by omega

theorem refChips_any (mode : Int) (w : World) : Calls Try.prog 28 #[.int .i64 mode] w fun e w' => e = .returned (.int .i64 (chN mode : Nat)) ∧ w = w' := by
  rcases modes mode with rfl | rfl | ⟨h1, h2⟩
  · go_enter Try.func28, Try.ntmps28
    go_wp2
    go_ret
    exact ⟨rfl, rfl⟩
  · go_enter Try.func28, Try.ntmps28
    go_wp2
    go_ret
    exact ⟨rfl, rfl⟩
  · have q1 : (mode == 1) = false := by rw [beq_eq_false_iff_ne]; exact h1
    have q2 : (mode == 2) = false := by rw [beq_eq_false_iff_ne]; exact h2
    have HE := Lib.hid (show chN mode = 0 by unfold chN; first | rw [if_neg h1, if_neg h2] | simp [h1, h2])
    clear h1 h2
    go_enter Try.func28, Try.ntmps28
    go_wp2
    go_ret
    exact ⟨by rw [HE.out]; rfl, rfl⟩
theorem chips_any (mode : Int) (w : World) : Calls Try.prog 64 #[.int .i64 mode] w fun e w' => e = .returned (.int .i64 (chN mode : Nat)) ∧ w = w' := by
  rcases modes mode with rfl | rfl | ⟨h1, h2⟩
  · go_enter Try.func64, Try.ntmps64
    go_wp2
    go_ret
    exact ⟨rfl, rfl⟩
  · go_enter Try.func64, Try.ntmps64
    go_wp2
    go_ret
    exact ⟨rfl, rfl⟩
  · have q1 : (mode == 1) = false := by rw [beq_eq_false_iff_ne]; exact h1
    have q2 : (mode == 2) = false := by rw [beq_eq_false_iff_ne]; exact h2
    have HE := Lib.hid (show chN mode = 0 by unfold chN; first | rw [if_neg h1, if_neg h2] | simp [h1, h2])
    clear h1 h2
    go_enter Try.func64, Try.ntmps64
    go_wp2
    go_ret
    exact ⟨by rw [HE.out]; rfl, rfl⟩
def rightB (mode : Int) : Bool := mode == 1 || mode == 2
theorem right_any (mode : Int) (w : World) : Calls Try.prog 60 #[.int .i64 mode] w fun e w' => e = .returned (.bool (rightB mode)) ∧ w = w' := by
  rcases modes mode with rfl | rfl | ⟨h1, h2⟩
  · go_enter Try.func60, Try.ntmps60
    go_wp2
    go_ret
    exact ⟨rfl, rfl⟩
  · go_enter Try.func60, Try.ntmps60
    go_wp2
    go_ret
    exact ⟨rfl, rfl⟩
  · have q1 : (mode == 1) = false := by rw [beq_eq_false_iff_ne]; exact h1
    have q2 : (mode == 2) = false := by rw [beq_eq_false_iff_ne]; exact h2
    have HE := Lib.hid (show rightB mode = false by unfold rightB; first | rw [if_neg h1, if_neg h2] | simp [h1, h2])
    clear h1 h2
    go_enter Try.func60, Try.ntmps60
    go_wp2
    go_ret
    exact ⟨by rw [HE.out]; rfl, rfl⟩
theorem words_any (mode : Int) (w : World) : Calls Try.prog 100 #[.int .i64 mode] w fun e w' => e = .returned (.int .i64 (wdN mode : Nat)) ∧ w = w' := by
  have HR := Lib.hid (right_any mode w)
  have HC := Lib.hid (chips_any mode w)
  rcases modes mode with rfl | rfl | ⟨h1, h2⟩
  case' inr.inr =>
    have HE := Lib.hid (show wdN mode = 0 by unfold wdN; rw [if_neg h1, if_neg h2])
    have hr : rightB mode = false := by unfold rightB; simp [h1, h2]
    rw [hr] at HR
    clear h1 h2 hr HC
    go_enter Try.func100, Try.ntmps100
    go_wp2_with fail
    refine HR.out.mono ?_
    rintro e w' ⟨rfl, rfl⟩
    go_wp2
    go_ret
    exact ⟨by rw [HE.out]; rfl, rfl⟩
  · rw [show rightB 1 = true from rfl] at HR
    rw [show chN 1 = 9 from rfl, show ((9 : Nat) : Int) = 9 from rfl] at HC
    have HE := Lib.hid (show wdN 1 = 8 from rfl)
    go_enter Try.func100, Try.ntmps100
    go_wp2_with fail
    refine HR.out.mono ?_
    rintro e w' ⟨rfl, rfl⟩
    go_wp2_with fail
    refine HC.out.mono ?_
    rintro e w' ⟨rfl, rfl⟩
    go_wp2
    go_ret
    exact ⟨by rw [HE.out]; rfl, rfl⟩
  · rw [show rightB 2 = true from rfl] at HR
    rw [show chN 2 = 36 from rfl, show ((36 : Nat) : Int) = 36 from rfl] at HC
    have HE := Lib.hid (show wdN 2 = 2 from rfl)
    go_enter Try.func100, Try.ntmps100
    go_wp2_with fail
    refine HR.out.mono ?_
    rintro e w' ⟨rfl, rfl⟩
    go_wp2_with fail
    refine HC.out.mono ?_
    rintro e w' ⟨rfl, rfl⟩
    go_wp2
    go_ret
    exact ⟨by rw [HE.out]; rfl, rfl⟩
end Go.Proofs.Ytckhkagkpldoiaa
namespace Go.Proofs.Ytckhkagkpldoiaa
open Go.RowKit Go.Shelf
attribute [local go_sem] Oper.semAt_some

theorem of_any (mode chip : Int) (w : World) :
    Calls Try.prog 95 #[.int .i64 mode, .int .i64 chip] w fun e w' =>
      e = .returned (.func (.func 107) #[] #[.pointer (some ⟨w.heap.size, 0, none⟩), .pointer (some ⟨w.heap.size + 1, 0, none⟩)]) ∧ w' = (w.alloc (.cells #[.int .i64 mode] 3)).alloc (.cells #[.int .i64 chip] 3) := by
  go_enter Try.func95, Try.ntmps95
  go_wp2
  go_ret
  exact ⟨rfl, rfl⟩

/-- Where a chip's bytes stand. -/
def ofL (mode chip : Int) : List Nat := if 0 ≤ chip ∧ chip < chN mode then (List.range (wdN mode)).map (fun w => chN mode * w + chip.toNat) else []
theorem ofL_in {mode chip : Int} (h : 0 ≤ chip ∧ chip < chN mode) : ofL mode chip = (List.range (wdN mode)).map (fun w => chN mode * w + chip.toNat) := if_pos h
theorem ofL_out {mode chip : Int} (h : ¬ (0 ≤ chip ∧ chip < chN mode)) : ofL mode chip = [] := if_neg h
theorem chN_le (mode : Int) : chN mode ≤ 36 := by unfold chN; split <;> (try split) <;> omega
theorem wdN_le (mode : Int) : wdN mode ≤ 8 := by unfold wdN; split <;> (try split) <;> omega

set_option maxRecDepth 100000 in
set_option maxHeartbeats 2000000 in
theorem of_iter (m : Nat) (h1 : 1 ≤ m) (bm bc : Nat) (mode chip : Int) :
    Iter3 Fence.wide m Try.prog 107 #[.pointer (some ⟨bm, 0, none⟩), .pointer (some ⟨bc, 0, none⟩)]
      (fun p : Nat => #[.int .i64 (p : Int)]) (ofL mode chip) (fun _ => False) (fun c => c = bm ∨ c = bc)
      (fun W => W.cell? ⟨bm, 0, none⟩ = some (.int .i64 mode) ∧ W.cell? ⟨bc, 0, none⟩ = some (.int .i64 chip)) := by
  intro l J Jx W O hSt hJ hJx hS hO hY h0
  obtain ⟨s1, s2⟩ := hSt
  have hbc : bc < W.heap.size := by
    obtain ⟨o, ho, _⟩ := cells_of_cell s2
    exact (Array.getElem?_eq_some_iff.1 ho).1
  have HC := Lib.hid (chips_any mode W)
  have HD := Lib.hid (words_any mode W)
  have HY := Lib.hid hY
  have H0 := Lib.hid h0
  have HBC := Lib.hid hbc
  have ln := chN_le mode
  have lw := wdN_le mode
  clear hY hJ hJx h0 hS hO hbc
  by_cases hin : 0 ≤ chip ∧ chip < chN mode
  · obtain ⟨c, rfl⟩ := Int.eq_ofNat_of_zero_le hin.1
    have hof := ofL_in hin
    obtain ⟨n, hn⟩ : ∃ n, chN mode = n := ⟨_, rfl⟩
    obtain ⟨d, hd⟩ : ∃ d, wdN mode = d := ⟨_, rfl⟩
    rw [hn] at HC hof hin ln
    rw [hd] at HD hof lw
    have hcn : c < n := by omega
    have hlen : (ofL mode (c : Int)).length = d := by rw [hof, List.length_map, List.length_range]
    have hget : ∀ j, j < d → (ofL mode (c : Int))[j]? = some (n * j + c) := fun j hj => by rw [hof, List.getElem?_map, List.getElem?_range hj]; rfl
    have HLEN := Lib.hid hlen
    have HGET := Lib.hid hget
    clear hin hof hn hd hlen hget
    refine callsIn_of_wp Try.func107 rfl trivial ?_ rfl
    simp only [Try.ntmps107, List.size_toArray, List.length_cons, List.length_nil, Nat.reduceAdd, Nat.reduceSub, Array.replicate_succ, Array.replicate_zero, List.push_toArray, List.append_toArray, List.nil_append, List.cons_append]
    gi_wp2_with fail
    refine ⟨trivial, ?_⟩
    refine (callsIn_wide.2 HC.out).mono ?_
    rintro e w2 ⟨rfl, rfl⟩
    gi_wp2_with fail
    refine ⟨trivial, ?_⟩
    refine (callsIn_wide.2 HD.out).mono ?_
    rintro e w2 ⟨rfl, rfl⟩
    gi_wp2
    gi_loopw [17] (fun i wr => ∃ j : Nat, ∃ O1 : Nat → Prop, j ≤ d ∧ i = .int .i64 j ∧ J j O1 wr ∧ W.heap.size ≤ wr.heap.size ∧ wr.heap[bc]? = W.heap[bc]?) (fun i _ => d - (intOf i).toNat)
    case atStart => exact ⟨0, O, by omega, rfl, H0.out, Nat.le_refl _, rfl⟩
    case round =>
      obtain ⟨j, O1, hj, rfl, hJ, hsz, hbk⟩ := hrel
      by_cases hlt : j < d
      · have e2 : wr.cell? ⟨bc, 0, none⟩ = some (.int .i64 (c : Int)) := by rw [World.cell?_of_block (a := ⟨bc, 0, none⟩) hbk]; exact s2
        obtain ⟨fn, tmps, assign, body, hy, hR⟩ := HY.out j (n * j + c) O1 wr (HGET.out j hlt) hJ hsz
        have hnj : n * j ≤ 36 * 8 := Nat.mul_le_mul ln (by omega)
        obtain ⟨m2, hm2⟩ : ∃ m2, n * j = m2 := ⟨_, rfl⟩
        have hm3 : (n : Int) * (j : Int) = (m2 : Int) := by rw [← hm2]; push_cast; rfl
        rw [hm2] at hy hnj
        push_cast at hy
        have HSZ := Lib.hid (And.intro hsz hbk)
        clear hJ hsz hbk hm2
        gi_wp2
        refine hR.mono ?_
        rintro e W3 ⟨O3, hgr, (⟨rfl, hJ3⟩ | ⟨rfl, hJ3⟩)⟩
        · have HJ3 := Lib.hid hJ3
          have HGR := Lib.hid (And.intro hgr.size (hgr.keep bc (Nat.lt_of_lt_of_le HBC.out HSZ.out.1) (.inr (.inr rfl))))
          clear hJ3 hgr hy hR e2 hm3
          gi_wp2
          go_roundw
          case rel => exact ⟨j + 1, O3, by omega, by go_num, HJ3.out, Nat.le_trans HSZ.out.1 HGR.out.1, HGR.out.2.trans HSZ.out.2⟩
          case measure => simp [intOf]; omega
        · have HJ3 := Lib.hid hJ3
          clear hJ3 hgr hy hR e2 hm3
          gi_wp2
          refine bodyPost_ret (results_none rfl _ _ _) rfl ?_
          exact ⟨⟨_, rfl⟩, .inr ⟨j, by rw [HLEN.out]; exact hlt, O3, HJ3.out⟩⟩
      · obtain rfl : j = d := by omega
        have HJ := Lib.hid hJ
        clear hJ hsz hbk
        gi_wp2
        go_end0
        exact ⟨⟨_, rfl⟩, .inl ⟨O1, by rw [HLEN.out]; exact HJ.out⟩⟩
  · have hof := ofL_out hin
    obtain ⟨n, hn⟩ : ∃ n, chN mode = n := ⟨_, rfl⟩
    rw [hn] at HC hin ln
    have HOF := Lib.hid hof
    clear hof hn lw
    by_cases hc0 : 0 ≤ chip
    · have hc1 : (n : Int) ≤ chip := by omega
      clear hin
      refine callsIn_of_wp Try.func107 rfl trivial ?_ rfl
      simp only [Try.ntmps107, List.size_toArray, List.length_cons, List.length_nil, Nat.reduceAdd, Nat.reduceSub, Array.replicate_succ, Array.replicate_zero, List.push_toArray, List.append_toArray, List.nil_append, List.cons_append]
      gi_wp2_with fail
      refine ⟨trivial, ?_⟩
      refine (callsIn_wide.2 HC.out).mono ?_
      rintro e w2 ⟨rfl, rfl⟩
      gi_wp2
      refine bodyPost_ret (results_none rfl _ _ _) rfl ?_
      exact ⟨⟨_, rfl⟩, .inl ⟨O, by rw [HOF.out]; exact H0.out⟩⟩
    · clear hin
      refine callsIn_of_wp Try.func107 rfl trivial ?_ rfl
      simp only [Try.ntmps107, List.size_toArray, List.length_cons, List.length_nil, Nat.reduceAdd, Nat.reduceSub, Array.replicate_succ, Array.replicate_zero, List.push_toArray, List.append_toArray, List.nil_append, List.cons_append]
      gi_wp2_with fail
      refine ⟨trivial, ?_⟩
      refine (callsIn_wide.2 HC.out).mono ?_
      rintro e w2 ⟨rfl, rfl⟩
      gi_wp2
      refine bodyPost_ret (results_none rfl _ _ _) rfl ?_
      exact ⟨⟨_, rfl⟩, .inl ⟨O, by rw [HOF.out]; exact H0.out⟩⟩
end Go.Proofs.Ytckhkagkpldoiaa
namespace Go.Proofs.Ytckhkagkpldoiaa
open Go.RowKit

/-- A word's bytes. -/
def wordB (mode : Int) (xs : List UInt8) (word : Int) : List UInt8 := if 0 ≤ word ∧ word < wdN mode then (xs.drop (chN mode * word.toNat)).take (chN mode) else []
theorem boxRaw (cv : Array Value) (w : World) : (Instr.box 41 (.agg cv)).run Try.prog w = .ok (.pointer (some ⟨w.heap.size, 0, none⟩)) (w.alloc (.cells cv 41)) := rfl
theorem infoB : (Try.prog.info? 5).map (fun i => (i.zero, i.size, i.bytes)) = some (some (.int .u8 0), 1, 1) := by kernel_rfl
theorem mode_fit {mode : Int} {k : Nat} (h : k < wdN mode) : (mode = 1 ∨ mode = 2) ∧ chN mode * k + chN mode ≤ 72 ∧ 9 ≤ chN mode := by
  rcases modes mode with rfl | rfl | ⟨h1, h2⟩
  · have e1 : wdN 1 = 8 := rfl
    have e2 : chN 1 = 9 := rfl
    rw [e1] at h
    rw [e2]; omega
  · have e1 : wdN 2 = 2 := rfl
    have e2 : chN 2 = 36 := rfl
    rw [e1] at h
    rw [e2]; omega
  · have e1 : wdN mode = 0 := by unfold wdN; rw [if_neg h1, if_neg h2]
    omega

theorem rawLen : Try.prog.arrayLen 41 = 72 := by kernel_rfl
theorem rawSize (W : World) : (sizeOf (Try.prog.elem 41)).run Try.prog W = .ok 1 W := by kernel_rfl
theorem addr_addN (g m : Nat) : (⟨g, 0, none⟩ : Addr).add m = ⟨g, m, none⟩ := by unfold Addr.add; split <;> simp_all
theorem rawSlice_lh (g m n : Nat) (hm : m < 72) (h : m + n ≤ 72) (W : World) :
    (Instr.sliceAt 41 (.pointer (some ⟨g, 0, none⟩)) (some (.int .i64 (m : Int))) (some (.int .i64 ((m : Int) + (n : Int)))) none).run Try.prog W = .ok (.slice (some ⟨g, m, none⟩) n (72 - m)) W := by
  rw [run_sliceAt_array_lh (P := Try.prog) (w := W) (t := 41) (a := ⟨g, 0, none⟩) (by kernel_rfl) (kl := .i64) (kh := .i64) (l := (m : Int)) (h := (m : Int) + (n : Int)) (by omega) (by omega) (by rw [rawLen]; omega), rawSize, Result.andThen_ok]
  unfold slicedAt
  rw [rawLen, show ((m : Int) + (n : Int)).toNat = m + n by omega, Int.toNat_natCast, Nat.mul_one, addr_addN, if_neg (by omega), show m + n - m = n by omega]
theorem rawSlice_all (g : Nat) (W : World) :
    (Instr.sliceAt 41 (.pointer (some ⟨g, 0, none⟩)) none none none).run Try.prog W = .ok (.slice (some ⟨g, 0, none⟩) 72 72) W := by
  rw [run_sliceAt_array_all (P := Try.prog) (w := W) (t := 41) (a := ⟨g, 0, none⟩) (by kernel_rfl), rawSize, Result.andThen_ok]
  unfold slicedAt
  rw [rawLen, Nat.zero_mul, addr_addN, if_neg (by omega)]

set_option maxRecDepth 100000 in
set_option maxHeartbeats 1000000 in
theorem word_any (xs : List UInt8) (hl : xs.length = 72) (mode word : Int) (w : World) :
    Calls Try.prog 102 #[.agg (rawV xs), .int .i64 mode, .int .i64 word] w fun e w' => ∃ A c, e = .returned (.slice A (wordB mode xs word).length c) ∧ RdB w' A (wordB mode xs word) ∧ Below w.heap.size w w' := by
  have hb := boxRaw (rawV xs)
  have CG := fun i (hi : i < 72) => rawV_get xs (i := i) (by rw [hl]; exact hi)
  have HD := Lib.hid (fun w => words_any mode w)
  have HC := Lib.hid (fun w => chips_any mode w)
  by_cases hin : 0 ≤ word ∧ word < wdN mode
  · obtain ⟨k, rfl⟩ := Int.eq_ofNat_of_zero_le hin.1
    have hwb : wordB mode xs (k : Int) = (xs.drop (chN mode * k)).take (chN mode) := if_pos hin
    obtain ⟨_, hfit, h9⟩ := mode_fit (mode := mode) (k := k) (by omega)
    obtain ⟨d, hd⟩ : ∃ d, wdN mode = d := ⟨_, rfl⟩
    obtain ⟨n, hn⟩ : ∃ n, chN mode = n := ⟨_, rfl⟩
    rw [hd] at HD hin
    rw [hn] at HC hwb hfit h9
    have hlen : (wordB mode xs (k : Int)).length = n := by rw [hwb, List.length_take, List.length_drop]; omega
    have hget : ∀ j, j < n → (wordB mode xs (k : Int)).getD j 0 = xs.getD (n * k + j) 0 := fun j hj => by
      rw [hwb, List.getD_eq_getElem?_getD, List.getD_eq_getElem?_getD, List.getElem?_take_of_lt hj, List.getElem?_drop]
    obtain ⟨B, hB⟩ : ∃ B, wordB mode xs (k : Int) = B := ⟨_, rfl⟩
    rw [hB] at hlen hget ⊢
    obtain ⟨m, hm⟩ : ∃ m, n * k = m := ⟨_, rfl⟩
    have hm3 : (n : Int) * (k : Int) = (m : Int) := by rw [← hm]; push_cast; rfl
    rw [hm] at hfit hget
    obtain ⟨cv, hcv⟩ : ∃ cv, rawV xs = cv := ⟨_, rfl⟩
    rw [hcv] at hb CG ⊢
    obtain ⟨i0, hi, hz0, hz1, hz2⟩ := info_parts infoB
    have HI0 := Lib.hid (And.intro hi (And.intro hz0 (And.intro hz1 hz2)))
    have i1 : ¬ ((d : Int) ≤ (k : Int)) := by omega
    have HLEN := Lib.hid hlen
    have HGET := Lib.hid hget
    have HCG := Lib.hid CG
    clear hin hwb hd hn hlen hget hB hm hcv CG hi hz0 hz1 hz2 hl
    go_enter Try.func102, Try.ntmps102
    go_wp2_with fail
    refine (HD.out _).mono ?_
    rintro e w' ⟨rfl, rfl⟩
    go_wp2_with fail
    refine (HC.out _).mono ?_
    rintro e w' ⟨rfl, rfl⟩
    clear hb
    obtain ⟨g, hg⟩ : ∃ g, w.heap.size = g := ⟨_, rfl⟩
    rw [hg]
    have hsl := rawSlice_lh g m n (by omega) hfit
    have HG := Lib.hid hg
    obtain ⟨W, hW⟩ : ∃ W, w.alloc (.cells cv 41) = W := ⟨_, rfl⟩
    rw [hW]
    have hbk : Blk W g 41 cv := by rw [← hW, ← hg]; exact Blk.new w _ _
    have hzw : W.heap.size = g + 1 := by rw [← hW, ← hg]; simp
    have HW := Lib.hid hW
    have HBK := Lib.hid hbk
    have HZW := Lib.hid hzw
    clear hg hW hbk hzw
    have hown : (W.alloc (.cells #[] 5)).ownsRow (g + 1) 5 1 (.slice (some ⟨W.heap.size, 0, none⟩) 0 0) 0 [] :=
      ⟨rfl, .inr ⟨W.heap.size, 0, #[], rfl, by rw [HZW.out]; exact Nat.le_refl _, Blk.new W _ _, Nat.le_refl _, Nat.zero_le _, rfl, rfl⟩⟩
    have HOWN := Lib.hid hown
    clear hown
    go_wp2_with (at_builtin; go_must (refine wpList_append_own _ rfl (.tmp 18) (.tmp 27) 151 rfl (g + 1) 5 i0 (.int .u8 0) 1 1 Try.underlying151 HI0.out.1 HI0.out.2.1 HI0.out.2.2.1 HI0.out.2.2.2 rfl (by decide) _ 0 [] rfl HOWN.out ⟨g, m, none⟩ n (72 - m) (B.map fun x => Value.int .u8 (x.toNat : Int)) rfl ?c1 ?c2 ?c3 ?c4 ?c5 ?c6 ?_))
    case c1 => rw [List.length_map, HLEN.out, Nat.mul_one]
    case c2 =>
      intro j u hu
      have hj : j < n := by have := (List.getElem?_eq_some_iff.1 hu).1; rw [List.length_map, HLEN.out] at this; exact this
      have hadd : (⟨g, m, none⟩ : Addr).add j = ⟨g, m + j, none⟩ := by unfold Addr.add; split <;> simp_all
      have h1 : (W.alloc (.cells #[] 5)).cell? ⟨g, m + j, none⟩ = cv[m + j]? := (HBK.out.alloc _).cell (m + j)
      rw [hadd]
      refine h1.trans ?_
      rw [HCG.out (m + j) (by omega), ← HGET.out j hj, ← hu, List.getElem?_map, List.getD_eq_getElem?_getD, List.getElem?_eq_getElem (by rw [HLEN.out]; exact hj)]
      rfl
    case c3 =>
      intro u hu
      obtain ⟨_, _, rfl⟩ := List.mem_map.1 hu
      rfl
    case c4 => unfold maxLen; omega
    case c5 => omega
    case c6 => simp [World.size_alloc, HZW.out]
    intro v' w1 hown1 hgrow _
    rcases hown1 with ⟨_, ⟨_, h0⟩ | ⟨g', cap, cur, rfl, hg', hbk', hcap, _, hsz', htk⟩⟩
    · omega
    · have hsz : (W.alloc (.cells #[] 5)).heap.size = g + 2 := by simp [HZW.out]
      have hb1 : Below (g + 1) (W.alloc (.cells #[] 5)) w1 := ⟨hgrow.os, hgrow.tape, hgrow.output, by have := hgrow.size; rw [hsz] at this; omega, fun b hb => hgrow.block b (by rw [hsz]; omega) (by
        show some b ≠ some W.heap.size
        rw [HZW.out]; intro e; cases e; omega)⟩
      have hb2 : Below g w w1 := by
        have h1 : Below g w W := by rw [← HW.out]; exact (Below.refl _ w).alloc (by rw [HG.out]; exact Nat.le_refl _) _
        exact (h1.alloc (by rw [HZW.out]; omega) _).trans (hb1.mono (by omega))
      have hrd : RdB w1 (some ⟨g', 0, none⟩) B := RdB.ofBlk hbk' fun k' hk' => by
        rw [HLEN.out] at hk'
        have h3 := congrArg (fun l => l[k']?) htk
        simp only [Nat.mul_one] at h3
        rw [List.getElem?_take_of_lt hk', Array.getElem?_toList] at h3
        rw [h3, List.getElem?_map, List.getD_eq_getElem?_getD, List.getElem?_eq_getElem (by rw [HLEN.out]; exact hk')]
        rfl
      have HB2 := Lib.hid hb2
      have HRD := Lib.hid hrd
      clear hgrow hbk' htk hsz' hb1 hb2 hrd hsz hsl
      go_wp2
      go_ret
      refine ⟨_, cap, ?_, HRD.out, by rw [HG.out]; exact HB2.out⟩
      rw [HLEN.out]
      simp
  · have hwb : wordB mode xs word = [] := if_neg hin
    rw [hwb]
    obtain ⟨cv, hcv⟩ : ∃ cv, rawV xs = cv := ⟨_, rfl⟩
    rw [hcv] at hb ⊢
    obtain ⟨d, hd⟩ : ∃ d, wdN mode = d := ⟨_, rfl⟩
    rw [hd] at HD hin
    clear hwb CG hcv hd HC
    by_cases h0 : 0 ≤ word
    · have i1 : (d : Int) ≤ word := by omega
      clear hin
      go_enter Try.func102, Try.ntmps102
      go_wp2_with fail
      refine (HD.out _).mono ?_
      rintro e w' ⟨rfl, rfl⟩
      go_wp2
      go_ret
      exact ⟨none, 0, rfl, RdB.nil, (Below.refl _ w).alloc (Nat.le_refl _) _⟩
    · clear hin
      go_enter Try.func102, Try.ntmps102
      go_wp2
      go_ret
      exact ⟨none, ⟨0, rfl⟩, RdB.nil, (Below.refl _ w).alloc (Nat.le_refl _) _⟩

theorem infoRaw : (Try.prog.info? 41).map (·.size) = some 72 := by kernel_rfl
def zero72 : List UInt8 := List.replicate 72 0
theorem zeroRaw (w : World) : (zeroValue 41).run Try.prog w = .ok (.agg (rawV zero72)) w := by kernel_rfl

end Go.Proofs.Ytckhkagkpldoiaa
namespace Go.Proofs.Ytckhkagkpldoiaa
open Go.RowKit

end Go.Proofs.Ytckhkagkpldoiaa
namespace Go.Proofs.Ytckhkagkpldoiaa
open Go.RowKit

/-- A list of bytes with bit i turned; beyond it: as it was. -/
def flipI (xs : List UInt8) (i : Int) : List UInt8 := if 0 ≤ i ∧ i.toNat / 8 < xs.length then xs.set (i.toNat / 8) (xs.getD (i.toNat / 8) 0 ^^^ UInt8.ofNat (2 ^ (i.toNat % 8))) else xs
theorem flipI_length (xs : List UInt8) (i : Int) : (flipI xs i).length = xs.length := by unfold flipI; split <;> simp
theorem flipI_out {xs : List UInt8} {i : Int} (h : ¬ (0 ≤ i ∧ i.toNat / 8 < xs.length)) : flipI xs i = xs := if_neg h
theorem flipI_in {xs : List UInt8} {p : Nat} (h : p / 8 < xs.length) : flipI xs (p : Int) = xs.set (p / 8) (xs.getD (p / 8) 0 ^^^ UInt8.ofNat (2 ^ (p % 8))) := by
  unfold flipI; rw [if_pos ⟨by omega, h⟩]; rfl

theorem u8_xorF (a b : UInt8) : bits .xor .u8 (a.toNat : Int) (b.toNat : Int) = ((a ^^^ b).toNat : Int) := by
  have ha := a.toNat_lt
  have hb := b.toNat_lt
  have h8 : ∀ c : Nat, c < 256 → (BitVec.ofInt 8 (c : Int)).toNat = c := by
    intro c hc
    rw [BitVec.ofInt_natCast, BitVec.toNat_ofNat]; exact Nat.mod_eq_of_lt (by omega)
  have hx : a.toNat ^^^ b.toNat < 2 ^ 8 := Nat.xor_lt_two_pow ha hb
  show IntKind.u8.wrap ((BitVec.ofInt 8 (a.toNat : Int) ^^^ BitVec.ofInt 8 (b.toNat : Int)).toNat : Int) = _
  rw [BitVec.toNat_xor, h8 _ ha, h8 _ hb, UInt8.toNat_xor]
  exact IntWalk.u8_in _ (by omega)
end Go.Proofs.Ytckhkagkpldoiaa
namespace Go.Proofs.Ytckhkagkpldoiaa
open Go.RowKit

/-- The unlike bits of the first k pairs of bytes. -/
def dfB (xs ys : List UInt8) : Nat → Nat
  | 0 => 0
  | k + 1 => dfB xs ys k + pc (xs.getD k 0 ^^^ ys.getD k 0).toNat
theorem dfB_comm (xs ys : List UInt8) (k : Nat) : dfB xs ys k = dfB ys xs k := by
  induction k with
  | zero => rfl
  | succ k ih => rw [dfB, dfB, ih, UInt8.xor_comm]
theorem dfB_le (xs ys : List UInt8) (k : Nat) : dfB xs ys k ≤ 64 * k := by
  induction k with
  | zero => exact Nat.le_refl 0
  | succ k ih => rw [dfB]; have := pc_le (xs.getD k 0 ^^^ ys.getD k 0).toNat; omega
def dI (xs ys : List UInt8) : Nat := 8 * (max xs.length ys.length - min xs.length ys.length) + dfB xs ys (min xs.length ys.length)

set_option maxRecDepth 100000 in
theorem differ_any (A B : Option Addr) (n m c d : Nat) (xs ys : List UInt8) (hn : xs.length = n) (hm : ys.length = m) (bn : n ≤ 200) (bm : m ≤ 200) (w : World) (hx : RdB w A xs) (hy : RdB w B ys) :
    Calls Try.prog 108 #[.slice A n c, .slice B m d] w fun e w' => e = .returned (.int .i64 (dI xs ys : Nat)) ∧ w = w' := by
  by_cases hlt : m < n
  · have hd : dI xs ys = 8 * (n - m) + dfB ys xs m := by unfold dI; rw [hn, hm, dfB_comm, show max n m - min n m = n - m from by omega, show min n m = m from by omega]
    have HD := Lib.hid hd
    have HX := Lib.hid hy
    have HY := Lib.hid hx
    have HN := Lib.hid hm
    have HM := Lib.hid hn
    have hle : m ≤ n := by omega
    obtain ⟨D0, hD0⟩ : ∃ D0, n - m = D0 := ⟨_, rfl⟩
    have hsub : (n : Int) - (m : Int) = (D0 : Int) := by omega
    have hDl : D0 ≤ 200 := by omega
    rw [hD0] at hd
    have HD2 := Lib.hid hd
    clear hx hy hn hm hd HD hD0
    go_enter Try.func108, Try.ntmps108
    go_wp2
    clear hsub
    go_loop [5, 23] (fun s i => ∃ k : Nat, k ≤ m ∧ i = .int .i64 k ∧ s = .int .i64 ((8 * D0 + dfB ys xs k : Nat) : Int)) (fun _ i => m - (intOf i).toNat)
    case atStart => exact ⟨0, Nat.zero_le _, rfl, by rw [dfB]; go_num⟩
    case round =>
      obtain ⟨k, hk, rfl, rfl⟩ := hrel
      have hdl := dfB_le ys xs k
      by_cases hl : k < m
      · obtain ⟨b1, o1, hA1, _, hc1⟩ := HX.out k (by have := HN.out; omega)
        obtain ⟨b2, o2, hA2, _, hc2⟩ := HY.out k (by have := HM.out; omega)
        subst hA1 hA2
        obtain ⟨x, hx⟩ : ∃ x, ys.getD k 0 = x := ⟨_, rfl⟩
        obtain ⟨y, hy⟩ : ∃ y, xs.getD k 0 = y := ⟨_, rfl⟩
        obtain ⟨C, hC⟩ : ∃ C, 8 * D0 + dfB ys xs k = C := ⟨_, rfl⟩
        have hCl : C ≤ 20000 := by omega
        have hst : 8 * D0 + dfB ys xs (k + 1) = C + pc (x ^^^ y).toNat := by rw [dfB, hx, hy]; omega
        have hz := u8_xorF x y
        have lz : (x ^^^ y).toNat < 256 := UInt8.toNat_lt _
        obtain ⟨z, hz2⟩ : ∃ z, (x ^^^ y).toNat = z := ⟨_, rfl⟩
        obtain ⟨P, hP⟩ : ∃ P, pc z = P := ⟨_, rfl⟩
        have hPl : P ≤ 64 := by rw [← hP]; exact pc_le z
        rw [hz2] at hst hz lz
        have RW := weight8 (z : Int) z rfl lz w
        rw [hP] at hst RW
        rw [hx] at hc1
        rw [hy] at hc2
        rw [hC]
        have HW := Lib.hid RW
        have HS := Lib.hid hst
        clear hx hy hC hst hz2 hP RW hdl
        have i0 : (0 : Int) ≤ (k : Int) := by omega
        have i1 : (k : Int) < (m : Int) := by omega
        have i2 : (k : Int) < (n : Int) := by omega
        go_wp2_with fail
        refine HW.out.mono ?_
        rintro e w' ⟨rfl, rfl⟩
        go_wp2
        go_round
        case rel => exact ⟨k + 1, by omega, by go_num, by rw [HS.out]; go_num⟩
        case measure => simp [intOf]; omega
      · obtain rfl : k = m := by omega
        obtain ⟨C, hC⟩ : ∃ C, 8 * D0 + dfB ys xs k = C := ⟨_, rfl⟩
        rw [hC]
        have HC := Lib.hid hC
        clear hC hdl
        go_wp2
        go_ret
        exact ⟨by rw [HD2.out, HC.out]; rfl, rfl⟩
  · have hd : dI xs ys = 8 * (m - n) + dfB xs ys n := by unfold dI; rw [hn, hm, show max n m - min n m = m - n from by omega, show min n m = n from by omega]
    have HD := Lib.hid hd
    have HX := Lib.hid hx
    have HY := Lib.hid hy
    have HN := Lib.hid hn
    have HM := Lib.hid hm
    have hle : n ≤ m := by omega
    obtain ⟨D0, hD0⟩ : ∃ D0, m - n = D0 := ⟨_, rfl⟩
    have hsub : (m : Int) - (n : Int) = (D0 : Int) := by omega
    have hDl : D0 ≤ 200 := by omega
    rw [hD0] at hd
    have HD2 := Lib.hid hd
    clear hx hy hn hm hd HD hD0
    go_enter Try.func108, Try.ntmps108
    go_wp2
    clear hsub
    go_loop [5, 23] (fun s i => ∃ k : Nat, k ≤ n ∧ i = .int .i64 k ∧ s = .int .i64 ((8 * D0 + dfB xs ys k : Nat) : Int)) (fun _ i => n - (intOf i).toNat)
    case atStart => exact ⟨0, Nat.zero_le _, rfl, by rw [dfB]; go_num⟩
    case round =>
      obtain ⟨k, hk, rfl, rfl⟩ := hrel
      have hdl := dfB_le xs ys k
      by_cases hl : k < n
      · obtain ⟨b1, o1, hA1, _, hc1⟩ := HX.out k (by have := HN.out; omega)
        obtain ⟨b2, o2, hA2, _, hc2⟩ := HY.out k (by have := HM.out; omega)
        subst hA1 hA2
        obtain ⟨x, hx⟩ : ∃ x, xs.getD k 0 = x := ⟨_, rfl⟩
        obtain ⟨y, hy⟩ : ∃ y, ys.getD k 0 = y := ⟨_, rfl⟩
        obtain ⟨C, hC⟩ : ∃ C, 8 * D0 + dfB xs ys k = C := ⟨_, rfl⟩
        have hCl : C ≤ 20000 := by omega
        have hst : 8 * D0 + dfB xs ys (k + 1) = C + pc (x ^^^ y).toNat := by rw [dfB, hx, hy]; omega
        have hz := u8_xorF x y
        have lz : (x ^^^ y).toNat < 256 := UInt8.toNat_lt _
        obtain ⟨z, hz2⟩ : ∃ z, (x ^^^ y).toNat = z := ⟨_, rfl⟩
        obtain ⟨P, hP⟩ : ∃ P, pc z = P := ⟨_, rfl⟩
        have hPl : P ≤ 64 := by rw [← hP]; exact pc_le z
        rw [hz2] at hst hz lz
        have RW := weight8 (z : Int) z rfl lz w
        rw [hP] at hst RW
        rw [hx] at hc1
        rw [hy] at hc2
        rw [hC]
        have HW := Lib.hid RW
        have HS := Lib.hid hst
        clear hx hy hC hst hz2 hP RW hdl
        have i0 : (0 : Int) ≤ (k : Int) := by omega
        have i1 : (k : Int) < (n : Int) := by omega
        have i2 : (k : Int) < (m : Int) := by omega
        go_wp2_with fail
        refine HW.out.mono ?_
        rintro e w' ⟨rfl, rfl⟩
        go_wp2
        go_round
        case rel => exact ⟨k + 1, by omega, by go_num, by rw [HS.out]; go_num⟩
        case measure => simp [intOf]; omega
      · obtain rfl : k = n := by omega
        obtain ⟨C, hC⟩ : ∃ C, 8 * D0 + dfB xs ys k = C := ⟨_, rfl⟩
        rw [hC]
        have HC := Lib.hid hC
        clear hC hdl
        go_wp2
        go_ret
        exact ⟨by rw [HD2.out, HC.out]; rfl, rfl⟩
end Go.Proofs.Ytckhkagkpldoiaa
namespace Go.Proofs.Ytckhkagkpldoiaa
open Go.RowKit

/-- The unlike bytes of the first k pairs. -/
def ulB (xs ys : List UInt8) : Nat → Nat
  | 0 => 0
  | k + 1 => ulB xs ys k + if xs.getD k 0 = ys.getD k 0 then 0 else 1
theorem ulB_le (xs ys : List UInt8) (k : Nat) : ulB xs ys k ≤ k := by
  induction k with
  | zero => exact Nat.le_refl 0
  | succ k ih => rw [ulB]; split <;> omega
def ul (mode : Int) (xs ys : List UInt8) : Nat := if mode = 1 then dI xs ys else ulB xs ys xs.length

set_option maxRecDepth 100000 in
theorem unlike_any (mode : Int) (A B : Option Addr) (n c d : Nat) (xs ys : List UInt8) (hn : xs.length = n) (hm : ys.length = n) (bn : n ≤ 200) (w : World) (hx : RdB w A xs) (hy : RdB w B ys) :
    Calls Try.prog 101 #[.int .i64 mode, .slice A n c, .slice B n d] w fun e w' => e = .returned (.int .i64 (ul mode xs ys : Nat)) ∧ w = w' := by
  by_cases h1 : mode = 1
  · subst h1
    have HU := Lib.hid (show ul 1 xs ys = dI xs ys from if_pos rfl)
    have HD := Lib.hid (differ_any A B n n c d xs ys hn hm bn bn w hx hy)
    obtain ⟨D, hD⟩ : ∃ D, dI xs ys = D := ⟨_, rfl⟩
    rw [hD] at HU HD
    clear hx hy hn hm hD
    go_enter Try.func101, Try.ntmps101
    go_wp2_with fail
    refine HD.out.mono ?_
    rintro e w' ⟨rfl, rfl⟩
    go_wp2
    go_ret
    exact ⟨by rw [HU.out]; rfl, rfl⟩
  · have q1 : (mode == 1) = false := by rw [beq_eq_false_iff_ne]; exact h1
    have HU := Lib.hid (show ul mode xs ys = ulB xs ys n by unfold ul; rw [if_neg h1, hn])
    have HX := Lib.hid hx
    have HY := Lib.hid hy
    have HN := Lib.hid hn
    have HM := Lib.hid hm
    clear hx hy hn hm h1
    go_enter Try.func101, Try.ntmps101
    go_wp2
    go_loop [7, 17] (fun s i => ∃ k : Nat, k ≤ n ∧ i = .int .i64 k ∧ s = .int .i64 ((ulB xs ys k : Nat) : Int)) (fun _ i => n - (intOf i).toNat)
    case atStart => exact ⟨0, Nat.zero_le _, rfl, rfl⟩
    case round =>
      obtain ⟨k, hk, rfl, rfl⟩ := hrel
      have hul := ulB_le xs ys k
      obtain ⟨C, hC⟩ : ∃ C, ulB xs ys k = C := ⟨_, rfl⟩
      rw [hC] at hul ⊢
      by_cases hl : k < n
      · obtain ⟨b1, o1, hA1, _, hc1⟩ := HX.out k (by have := HN.out; omega)
        obtain ⟨b2, o2, hA2, _, hc2⟩ := HY.out k (by have := HM.out; omega)
        subst hA1 hA2
        by_cases hxy : xs.getD k 0 = ys.getD k 0
        · have HS := Lib.hid (show ulB xs ys (k + 1) = C by rw [ulB, hC, if_pos hxy]; omega)
          rw [hxy] at hc1
          obtain ⟨y, hy⟩ : ∃ y, (ys.getD k 0).toNat = y := ⟨_, rfl⟩
          rw [hy] at hc1 hc2
          clear hxy hy hC
          go_wp2
          go_round
          case rel => exact ⟨k + 1, by omega, by go_num, by rw [HS.out]⟩
          case measure => simp [intOf]; omega
        · have HS := Lib.hid (show ulB xs ys (k + 1) = C + 1 by rw [ulB, hC, if_neg hxy])
          have hne : (xs.getD k 0).toNat ≠ (ys.getD k 0).toNat := fun h => hxy (UInt8.toNat_inj.1 h)
          obtain ⟨x, hx⟩ : ∃ y, (xs.getD k 0).toNat = y := ⟨_, rfl⟩
          obtain ⟨y, hy⟩ : ∃ y, (ys.getD k 0).toNat = y := ⟨_, rfl⟩
          rw [hx] at hc1 hne
          rw [hy] at hc2 hne
          have q2 : ((x : Int) != (y : Int)) = true := by rw [bne_iff_ne]; omega
          clear hxy hx hy hC hne
          go_wp2
          go_round
          case rel => exact ⟨k + 1, by omega, by go_num, by rw [HS.out]; go_num⟩
          case measure => simp [intOf]; omega
      · obtain rfl : k = n := by omega
        have HC := Lib.hid hC
        clear hC
        go_wp2
        go_ret
        exact ⟨by rw [HU.out, HC.out]; rfl, rfl⟩
end Go.Proofs.Ytckhkagkpldoiaa
namespace Go.Proofs.Ytckhkagkpldoiaa
open Go.RowKit Go.Shelf
attribute [local go_sem] Oper.semAt_some

/-- A chip's bytes set: the first i of them, and all. -/
def chipP (mode : Int) (xs : List UInt8) (chip : Int) (v : UInt8) (i : Nat) : List UInt8 := ((ofL mode chip).take i).foldl (fun l x => l.set x v) xs
def chipB (mode : Int) (xs : List UInt8) (chip : Int) (v : UInt8) : List UInt8 := chipP mode xs chip v (ofL mode chip).length
theorem set_len (v : UInt8) : ∀ (L : List Nat) (xs : List UInt8), (L.foldl (fun l x => l.set x v) xs).length = xs.length
  | [], _ => rfl
  | x :: L, xs => by rw [List.foldl_cons, set_len v L, List.length_set]
theorem chipP_len (mode : Int) (xs : List UInt8) (chip : Int) (v : UInt8) (i : Nat) : (chipP mode xs chip v i).length = xs.length := set_len v _ _
theorem chipP_succ {mode : Int} {xs : List UInt8} {chip : Int} {v : UInt8} {i x : Nat} (h : (ofL mode chip)[i]? = some x) : chipP mode xs chip v (i + 1) = (chipP mode xs chip v i).set x v := by
  unfold chipP
  rw [List.take_add_one, h, List.foldl_append]
  rfl
theorem of_lt {mode chip : Int} {i x : Nat} (h : (ofL mode chip)[i]? = some x) : x < 72 := by
  unfold ofL at h
  split at h
  · rename_i hin
    have hi : i < wdN mode := by have := (List.getElem?_eq_some_iff.1 h).1; rw [List.length_map, List.length_range] at this; exact this
    rw [List.getElem?_map, List.getElem?_range hi] at h
    have h2 := (Option.some.inj h).symm
    obtain ⟨_, hf, _⟩ := mode_fit hi
    simp only at h2
    omega
  · simp at h

set_option maxRecDepth 100000 in
set_option maxHeartbeats 2000000 in
theorem chip_any (xs : List UInt8) (lx : xs.length = 72) (mode chip : Int) (v : UInt8) (w : World) :
    Calls Try.prog 67 #[.agg (rawV xs), .int .i64 mode, .int .i64 chip, .int .u8 (v.toNat : Int)] w fun e w' => e = .returned (.agg (rawV (chipB mode xs chip v))) ∧ Below w.heap.size w w' := by
  have hb := boxRaw (rawV xs)
  have hz := zeroRaw
  have hinf : ∀ zs : List UInt8, zs.length = 72 → (Try.prog.info? 41).map (·.size) = some (rawV zs).size := fun zs hz => by rw [rawV_size, hz]; exact infoRaw
  have HINF := Lib.hid hinf
  have HX := Lib.hid lx
  have HIT := Lib.hid (fun bm bc => of_iter (6 - 1) (by omega) bm bc mode chip)
  have HP0 := Lib.hid (show chipP mode xs chip v 0 = xs from rfl)
  obtain ⟨cv, hcv⟩ : ∃ cv, rawV xs = cv := ⟨_, rfl⟩
  rw [hcv] at hb ⊢
  have HCV := Lib.hid hcv
  obtain ⟨b0, hb0⟩ : ∃ b0, w.heap.size = b0 := ⟨_, rfl⟩
  have HB0 := Lib.hid hb0
  have lv := v.toNat_lt
  obtain ⟨y, hy⟩ : ∃ y, v.toNat = y := ⟨_, rfl⟩
  have HYV := Lib.hid hy
  rw [hy] at lv ⊢
  clear hinf lx hcv hy
  refine (callsIn_wide (n := 6)).1 ?_
  refine callsIn_of_wp_marks Try.func67 rfl trivial ?_ rfl
  simp only [Try.ntmps67, List.size_toArray, List.length_cons, List.length_nil, Nat.reduceAdd, Nat.reduceSub, Array.replicate_succ, Array.replicate_zero, List.push_toArray, List.append_toArray, List.nil_append, List.cons_append]
  gi_wp2_with fail
  refine ⟨trivial, ?_⟩
  clear hb hz
  refine (callsIn_wide.2 (of_any _ _ _)).mono ?_
  rintro e U0 ⟨rfl, hw4⟩
  have M0 : Blk U0 b0 41 cv := by rw [hw4, ← hb0]; exact ((((Blk.new w _ _).alloc _).alloc _).alloc _).alloc _
  have M1 : Blk U0 (b0 + 1) 5 #[.int .u8 (y : Int)] := by
    rw [hw4, ← hb0]; have h := (Blk.new (w.alloc (.cells cv 41)) 5 #[.int .u8 (y : Int)]); rw [World.size_alloc] at h; exact ((h.alloc _).alloc _).alloc _
  have M2 : Blk U0 (b0 + 2) 41 (rawV zero72) := by
    rw [hw4, ← hb0]; have h := (Blk.new ((w.alloc (.cells cv 41)).alloc (.cells #[.int .u8 (y : Int)] 5)) 41 (rawV zero72)); simp only [World.size_alloc] at h; exact (h.alloc _).alloc _
  have M3 : U0.cell? ⟨b0 + 3, 0, none⟩ = some (.int .i64 mode) := by
    have h := (Blk.new (((w.alloc (.cells cv 41)).alloc (.cells #[.int .u8 (y : Int)] 5)).alloc (.cells (rawV zero72) 41)) 3 #[.int .i64 mode]); simp only [World.size_alloc] at h
    rw [hw4, ← hb0]; exact (h.alloc _).cell 0
  have M4 : U0.cell? ⟨b0 + 4, 0, none⟩ = some (.int .i64 chip) := by
    have h := (Blk.new ((((w.alloc (.cells cv 41)).alloc (.cells #[.int .u8 (y : Int)] 5)).alloc (.cells (rawV zero72) 41)).alloc (.cells #[.int .i64 mode] 3)) 3 #[.int .i64 chip]); simp only [World.size_alloc] at h
    rw [hw4, ← hb0]; exact h.cell 0
  have MB : Below b0 w U0 := by
    rw [hw4, ← hb0]; exact (((((Below.refl w.heap.size w).alloc (Nat.le_refl _) _).alloc (by simp) _).alloc (by simp; omega) _).alloc (by simp; omega) _).alloc (by simp; omega) _
  have MZ : U0.heap.size = b0 + 5 := by rw [hw4, ← hb0]; simp
  have N0 := Lib.hid M0
  have N1 := Lib.hid M1
  have N2 := Lib.hid M2
  have N3 := Lib.hid M3
  have N4 := Lib.hid M4
  have NB := Lib.hid MB
  have NZ := Lib.hid MZ
  simp only [World.size_alloc]
  rw [hb0]
  clear M0 M1 M2 M3 M4 MB MZ hw4 hb0
  gi_wp2
  refine iter_law3 (n := 6) rfl (by omega) (gf := 107) (lb := #[.pointer (some ⟨b0 + 3, 0, none⟩), .pointer (some ⟨b0 + 4, 0, none⟩)]) rfl trivial (enters_of Try.func107 (by kernel_rfl) rfl)
    (HIT.out (b0 + 3) (b0 + 4)) (fun b => b < b0 + 5) ?hSt ?hO (fun _ h => h.elim) ?hK (fun _ => rfl)
    (fun i O U => O = (fun b => b < b0 + 5) ∧ Blk U b0 41 (rawV (chipP mode xs chip v i)) ∧ Blk U (b0 + 1) 5 #[.int .u8 (y : Int)] ∧ Blk U (b0 + 2) 41 (rawV zero72) ∧ Below b0 w U ∧ b0 + 5 ≤ U.heap.size)
    (fun _ _ _ _ => False)
    ?hI ?hIx ?h0 ?act1 ?assign ?body ?done ?stop
  case hSt =>
    intro U hU
    have wz := NZ.out
    exact ⟨by rw [World.cell?_of_block (a := ⟨b0 + 3, 0, none⟩) (hU (b0 + 3) (by omega))]; exact N3.out, by rw [World.cell?_of_block (a := ⟨b0 + 4, 0, none⟩) (hU (b0 + 4) (by omega))]; exact N4.out⟩
  case hO => intro b hb; have := NZ.out; omega
  case hK => intro b hb; have := NZ.out; omega
  case hI =>
    rintro i O A B ⟨rfl, h0, h1, h2, h3, h4⟩ t
    have k := fun {b : Nat} {cs : Array Value} {ty : TypeId} (h : Blk A b ty cs) (hb : b < b0 + 5) => (t.heap (fun e => e hb) h : Blk B b ty cs)
    exact ⟨rfl, k h0 (by omega), k h1 (by omega), k h2 (by omega), h3.trans (t.below (by omega) (fun b hb => by
      rcases Nat.lt_or_ge b b0 with hlt | hge
      · exact (hb (by omega)).elim
      · exact hge)), Nat.le_trans h4 t.size⟩
  case hIx => rintro c i O A B h t; exact h.elim
  case h0 => exact ⟨rfl, by rw [HP0.out, HCV.out]; exact N0.out, N1.out, N2.out, NB.out, by have := NZ.out; omega⟩
  case assign =>
    intro l x W K hK
    gi_wp2
    exact hK
  case body =>
    rintro l i x O U hx hsz ⟨rfl, h0, h1, h2, h3, h4⟩
    have hx72 := of_lt hx
    have HS := Lib.hid (chipP_succ (xs := xs) (v := v) hx)
    have hpl : (chipP mode xs chip v i).length = 72 := by rw [chipP_len, HX.out]
    have e0 := (h0.cell x).trans (rawV_get _ (i := x) (by rw [hpl]; exact hx72))
    have f0 := h0.frozen x
    have e1 := h1.cell 0
    simp only [List.getElem?_toArray, List.getElem?_cons_zero] at e1
    have i1 : (x : Int) < 72 := by omega
    have HI := Lib.hid (And.intro h0 (And.intro h1 (And.intro h2 (And.intro h3 h4))))
    clear h0 h1 h2 h3 h4 hsz hpl hx
    gi_wp2
    obtain ⟨h0, h1, h2, h3, h4⟩ := HI.out
    refine ⟨_, (Grow.refl _ (fun b hb => by omega)).setCell (p := ⟨b0, x, none⟩) (.inr ⟨by show b0 < b0 + 5; omega, fun h => by rcases h with h | h <;> (have h' : b0 = _ := h; omega)⟩) _, rfl, ?_, h1.far (p := ⟨b0, x, none⟩) (by show b0 + 1 ≠ b0; omega) _, h2.far (p := ⟨b0, x, none⟩) (by show b0 + 2 ≠ b0; omega) _, h3.setCell (p := ⟨b0, x, none⟩) (by show b0 ≤ b0; omega) _, by simp [World.setCell]; exact h4⟩
    rw [HS.out, ← rawV_set, HYV.out]
    exact h0.set_ x _
  case stop => rintro Dm c i O1 U hD hnD hlen h hK; exact h.elim
  case done =>
    rintro Dm O1 U hD hnD ⟨rfl, h0, h1, h2, h3, h4⟩ hK
    have hcl : (chipB mode xs chip v).length = 72 := by unfold chipB; rw [chipP_len, HX.out]
    have hb : chipP mode xs chip v (ofL mode chip).length = chipB mode xs chip v := rfl
    rw [hb] at h0
    have HI := Lib.hid (HINF.out _ hcl)
    have L1 := run_loadVar_row (P := Try.prog) U b0 41 41 (rawV (chipB mode xs chip v)) (0, 0) _ h0 Try.underlying41 rfl HI.out
    have S1 := run_storeVar_row (P := Try.prog) U (b0 + 2) 41 41 (rawV zero72) (rawV (chipB mode xs chip v)) h2 HI.out (by rw [rawV_size, rawV_size, hcl]; rfl) (rawV_one _)
    obtain ⟨pv, hpv⟩ : ∃ pv, rawV (chipB mode xs chip v) = pv := ⟨_, rfl⟩
    rw [hpv] at L1 S1 h0 HI
    have HPV := Lib.hid hpv
    have H2 := Lib.hid h2
    have H3 := Lib.hid h3
    have HK := Lib.hid hK
    clear h0 h1 h2 h3 h4 hK hcl hb hpv
    gi_wp2_with (first | (refine wpListIn_load_at rfl 41 (.tmp 4) rfl ⟨b0, 0, none⟩ rfl (.agg pv) L1 ?_) | (refine wpListIn_store_at rfl 41 (.tmp 8) (.tmp 17) rfl ⟨b0 + 1 + 1, 0, none⟩ rfl (.agg pv) rfl S1 ?_))
    have nz := NZ.out
    have hKD : (U.setRow (b0 + 2) pv).heap[Dm]? = some (.deferred (some [])) := (setRow_other U (b0 + 2) Dm pv (by omega)).trans HK.out
    have hbk : ((U.setRow (b0 + 2) pv).putObj Dm (.deferred none)).heap[b0 + 2]? = some (.cells pv 41 (0, 0)) := (World.putObj_heap_other (by omega)).trans (H2.out.setRow pv)
    refine ⟨by simp, .inl ⟨_, _, rfl, run_takeDeferred hKD, ?_⟩⟩
    refine ⟨.agg pv, results_cell_row rfl _ _ (b0 + 2) 41 pv (0, 0) _ rfl hbk Try.underlying41 rfl HI.out, by rw [HPV.out], ?_⟩
    have q := H3.out
    have hb0 := HB0.out
    rw [← hb0] at q
    have hq := below_setRow q (g := b0 + 2) (by omega) pv
    exact hq.trans ((Turn.putObj (S := fun b => w.heap.size ≤ b) _ (l := Dm) (by omega) _).below hq.size (fun b hb => hb))
end Go.Proofs.Ytckhkagkpldoiaa
namespace Go.Proofs.Ytckhkagkpldoiaa
open Go.RowKit

def rowAt (W : World) (a : Addr) : Option (Array Value) := match a with
  | ⟨g, 0, none⟩ => (match W.heap[g]? with
    | some (.cells cs _ (0, 0)) => if cs.size = 72 then some cs else none
    | _ => none)
  | _ => none
def slowVar (t : TypeId) (a : Addr) : Sem Value := loadVar t a
theorem load_row_down (W : World) (a : Addr) : (loadVar 41 a).run Try.prog W = match rowAt W a with
    | some cs => .ok (.agg cs) W
    | none => (slowVar 41 a).run Try.prog W := by
  cases h : rowAt W a with
  | none => rfl
  | some cs =>
    unfold rowAt at h
    split at h
    · split at h
      · rename_i g _ cs' t hc
        split at h
        · rename_i hs
          cases h
          have hi : (Try.prog.info? 41).map (·.size) = some cs.size := by rw [hs]; exact infoRaw
          exact run_loadVar_row (P := Try.prog) W g t 41 cs (0, 0) _ hc Try.underlying41 rfl hi
        · cases h
      · cases h
    · cases h
theorem Blk.row {W : World} {g : Nat} {t : TypeId} {cs : Array Value} (h : Blk W g t cs) (hs : cs.size = 72) : rowAt W ⟨g, 0, none⟩ = some cs := by
  unfold rowAt
  simp only [show W.heap[g]? = some (.cells cs t (0, 0)) from h]
  exact if_pos hs
theorem load_var_step {P : Program} (t : TypeId) (W : World) (a : Addr) : (loadVar t a).run P W = ((isAgg t).run P W).andThen fun b w' => if b then ((sizeOf t).run P w').andThen (fun n w2 => ((loadCells a n).run P w2).andThen fun cs w3 => .ok (.agg cs) w3) else (load a).run P w' := by
  unfold loadVar
  rw [Sem.run_bind]
  congr 1
  funext b w'
  cases b <;> simp [Sem.run_bind]
end Go.Proofs.Ytckhkagkpldoiaa
namespace Go.Proofs.Ytckhkagkpldoiaa
open Go.RowKit
attribute [-go_sem] loadVar
attribute [local go_sem high] load_row_down
attribute [local go_sem low] load_var_step

/-- How much two are exposed to one another: over the first k words, and over all. -/
def exP (mode : Int) (xs ys : List UInt8) : Nat → Nat
  | 0 => 0
  | k + 1 => max (exP mode xs ys k) (ul mode (wordB mode xs (k : Int)) (wordB mode ys (k : Int)))
def expo (mode : Int) (xs ys : List UInt8) : Nat := exP mode xs ys (wdN mode)
theorem word_len {mode : Int} {xs : List UInt8} {k : Nat} (hl : xs.length = 72) (h : k < wdN mode) : (wordB mode xs (k : Int)).length = chN mode := by
  obtain ⟨_, hf, _⟩ := mode_fit h
  unfold wordB
  rw [if_pos (by omega), Int.toNat_natCast, List.length_take, List.length_drop]
  omega
theorem chN_le' (mode : Int) : chN mode ≤ 36 := by unfold chN; split <;> (try split) <;> omega
theorem wdN_le' (mode : Int) : wdN mode ≤ 8 := by unfold wdN; split <;> (try split) <;> omega
theorem ul_le {mode : Int} {xs ys : List UInt8} {n : Nat} (h1 : xs.length = n) (h2 : ys.length = n) : ul mode xs ys ≤ 64 * n := by
  unfold ul
  split
  · unfold dI
    have := dfB_le xs ys (min xs.length ys.length)
    omega
  · have := ulB_le xs ys xs.length
    omega
theorem ul_le36 {mode : Int} {xs ys : List UInt8} (h1 : xs.length ≤ 36) (h2 : ys.length ≤ 36) : ul mode xs ys ≤ 64 * 36 := by
  unfold ul
  split
  · unfold dI
    have := dfB_le xs ys (min xs.length ys.length)
    omega
  · have := ulB_le xs ys xs.length
    omega
theorem word_le (mode : Int) (xs : List UInt8) (k : Int) : (wordB mode xs k).length ≤ 36 := by
  have := chN_le' mode
  unfold wordB
  split
  · rw [List.length_take]; omega
  · exact Nat.zero_le _
theorem exP_le (mode : Int) (xs ys : List UInt8) (k : Nat) : exP mode xs ys k ≤ 64 * 36 := by
  induction k with
  | zero => exact Nat.zero_le _
  | succ k ih =>
    have := ul_le36 (mode := mode) (word_le mode xs (k : Int)) (word_le mode ys (k : Int))
    rw [exP]
    omega
def At2 (w : World) (b0 : Nat) (cv dv : Array Value) (W : World) : Prop := Blk W b0 41 cv ∧ Blk W (b0 + 1) 41 dv ∧ Below b0 w W ∧ b0 + 2 ≤ W.heap.size
theorem At2.below {w : World} {b0 : Nat} {cv dv : Array Value} {W W' : World} (h : At2 w b0 cv dv W) (hb : Below W.heap.size W W') : At2 w b0 cv dv W' := by
  obtain ⟨h0, h1, h2, h3⟩ := h
  exact ⟨h0.below hb (by omega), h1.below hb (by omega), h2.trans (hb.mono (by omega)), Nat.le_trans h3 hb.size⟩

set_option maxRecDepth 100000 in
set_option maxHeartbeats 2000000 in
theorem exposure_any (mode : Int) (xs ys : List UInt8) (lx : xs.length = 72) (ly : ys.length = 72) (w : World) :
    Calls Try.prog 86 #[.int .i64 mode, .agg (rawV xs), .agg (rawV ys)] w fun e w' => e = .returned (.int .i64 (expo mode xs ys : Nat)) ∧ Below w.heap.size w w' := by
  have hb1 := boxRaw (rawV xs)
  have hb2 := boxRaw (rawV ys)
  have HD := Lib.hid (fun w => words_any mode w)
  have HWX := Lib.hid (fun k w => word_any xs lx mode (k : Int) w)
  have HWY := Lib.hid (fun k w => word_any ys ly mode (k : Int) w)
  have HI1 : (rawV xs).size = 72 := by rw [rawV_size, lx]
  have HI2 : (rawV ys).size = 72 := by rw [rawV_size, ly]
  have HL := Lib.hid (And.intro lx ly)
  obtain ⟨cv, hcv⟩ : ∃ cv, rawV xs = cv := ⟨_, rfl⟩
  obtain ⟨dv, hdv⟩ : ∃ cv, rawV ys = cv := ⟨_, rfl⟩
  obtain ⟨b0, hb0⟩ : ∃ b0, w.heap.size = b0 := ⟨_, rfl⟩
  have HB0 := Lib.hid hb0
  obtain ⟨d, hd⟩ : ∃ d, wdN mode = d := ⟨_, rfl⟩
  have HDD := Lib.hid hd
  rw [hcv] at hb1 HWX HI1 ⊢
  rw [hdv] at hb2 HWY HI2 ⊢
  rw [hd] at HD
  have H1 := Lib.hid (And.intro HI1 HI2)
  clear hcv hdv hd lx ly HI1 HI2
  go_enter Try.func86, Try.ntmps86
  go_wp2_with fail
  refine (HD.out _).mono ?_
  rintro e w' ⟨rfl, hw⟩
  have hA : At2 w b0 cv dv w' := by
    rw [← hw, ← hb0]
    refine ⟨(Blk.new w _ _).alloc _, ?_, ((Below.refl _ w).alloc (Nat.le_refl _) _).alloc (by simp) _, by simp⟩
    have h := Blk.new (w.alloc (.cells cv 41)) 41 dv
    rw [World.size_alloc] at h; exact h
  have HA := Lib.hid hA
  clear hb1 hb2 hw hA
  go_wp2
  go_loopw [7, 11] (fun s i wr => ∃ k : Nat, k ≤ d ∧ i = .int .i64 k ∧ s = .int .i64 ((exP mode xs ys k : Nat) : Int) ∧ At2 w b0 cv dv wr) (fun _ i _ => d - (intOf i).toNat)
  case atStart => exact ⟨0, Nat.zero_le _, rfl, rfl, HA.out⟩
  case round =>
    obtain ⟨k, hk, rfl, rfl, hA⟩ := hrel
    obtain ⟨C, hC⟩ : ∃ C, exP mode xs ys k = C := ⟨_, rfl⟩
    rw [hC]
    by_cases hl : k < d
    · have HKD := Lib.hid hl
      have hk8 : k ≤ 8 := by have := wdN_le' mode; rw [HDD.out] at this; omega
      have HX := fun w => HWX.out (k : Int) w
      have HY := fun w => HWY.out (k : Int) w
      have l1 := word_len HL.out.1 (show k < wdN mode by rw [HDD.out]; exact hl)
      have l2 := word_len HL.out.2 (show k < wdN mode by rw [HDD.out]; exact hl)
      have hs : exP mode xs ys (k + 1) = max C (ul mode (wordB mode xs (k : Int)) (wordB mode ys (k : Int))) := by rw [exP, hC]
      have hcl := chN_le' mode
      obtain ⟨n, hn⟩ : ∃ n, chN mode = n := ⟨_, rfl⟩
      rw [hn] at l1 l2 hcl
      obtain ⟨X, hX⟩ : ∃ X, wordB mode xs (k : Int) = X := ⟨_, rfl⟩
      obtain ⟨Y, hY⟩ : ∃ X, wordB mode ys (k : Int) = X := ⟨_, rfl⟩
      rw [hX] at HX l1 hs
      rw [hY] at HY l2 hs
      rw [l1] at HX
      rw [l2] at HY
      have HU := fun A B c e w h1 h2 => unlike_any mode A B n c e X Y l1 l2 (by omega) w h1 h2
      have hul := ul_le (mode := mode) l1 l2
      obtain ⟨u, hu⟩ : ∃ u, ul mode X Y = u := ⟨_, rfl⟩
      rw [hu] at HU hs hul
      have HS := Lib.hid hs
      have HX' := Lib.hid HX
      have HY' := Lib.hid HY
      have HU' := Lib.hid HU
      have HA := Lib.hid hA
      have hCl : C ≤ 64 * 36 := by rw [← hC]; exact exP_le mode xs ys k
      clear HX HY HU hs hX hY hn l1 l2 hC hA hu
      go_upto_region 5 with fail
      replace HA := Lib.hid (show At2 w b0 cv dv wr.drew from ⟨HA.out.1, HA.out.2.1, below_drewN HA.out.2.2.1 1, HA.out.2.2.2⟩)
      have g1 := HA.out.1.row H1.out.1
      have g2 := HA.out.2.1.row H1.out.2
      go_region_with (first
        | (go_at_call 102; first
            | (have K0 := K1; clear K0; refine (HY'.out _).mono ?_; rintro e w3 ⟨A2, c2, rfl, r2, bl2⟩; have K2 := Lib.hid (K1.out.below bl2); have R2 := Lib.hid (And.intro (R1.out.below bl2) r2); clear r2 bl2)
            | (refine (HX'.out _).mono ?_; rintro e w2 ⟨A1, c1, rfl, r1, bl1⟩; have K1 := Lib.hid (HA.out.below bl1); have R1 := Lib.hid r1; have g3 := K1.out.1.row H1.out.1; have g4 := K1.out.2.1.row H1.out.2; clear r1 bl1))
        | (go_at_call 101; refine (HU'.out _ _ _ _ _ R2.out.1 R2.out.2).mono ?_; rintro e w4 ⟨rfl, rfl⟩))
      all_goals clear g1 g2 g3 g4 HX' HY' HU'
      all_goals
        by_cases hcu : C < u
        · have HM := Lib.hid (show max C u = u by omega)
          rw [if_pos hcu]
          clear hcu
          go_wp2
          go_roundw
          case rel => exact ⟨k + 1, by have := HKD.out; omega, by go_num, by rw [HS.out, HM.out], K2.out⟩
          case measure => have := HKD.out; simp [intOf]; omega
        · have HM := Lib.hid (show max C u = C by omega)
          rw [if_neg hcu]
          clear hcu
          go_wp2
          go_roundw
          case rel => exact ⟨k + 1, by have := HKD.out; omega, by go_num, by rw [HS.out, HM.out], K2.out⟩
          case measure => have := HKD.out; simp [intOf]; omega
    · obtain rfl : k = d := by omega
      have HA2 := Lib.hid hA
      have HC := Lib.hid hC
      clear hA hC
      go_wp2
      go_ret
      exact ⟨by unfold expo; rw [HDD.out, HC.out]; rfl, by rw [HB0.out]; exact HA2.out.2.2.1⟩
end Go.Proofs.Ytckhkagkpldoiaa
