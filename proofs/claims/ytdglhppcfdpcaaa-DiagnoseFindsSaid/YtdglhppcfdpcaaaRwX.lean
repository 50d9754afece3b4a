/- Several texts in one: Arr BitG ArrO RawW RawI RawD RawQ BitX BitDf RawU RawC ArrL RawE. -/
import Derived.Test.YtdglhppcfdpcaaaMmX
import Derived.Laws.Rows
import Derived.Laws.CopyRow
import Derived.Laws.CopyOwn
import Derived.OwnWalkIn
import Derived.TacticsInMore
import Derived.Test.YtdglhppcfdpcaaaBtX
import Derived.WideShapes
import Derived.OpenShut
import Derived.WideOpen
import Derived.WalkKit
import Derived.Lib.Hide
import Derived.Laws.AppendOwn
import Derived.StillTailTactics
import Derived.Test.YtdglhppcfdpcaaaRfX
import Derived.Shelf.Abstract
import Derived.LoopNIn
import Derived.LoopIn
import Derived.Laws.StructEq
import Derived.ChangeKeysEq
import Derived.Sort.BigQuietIn
import Derived.Sort.CutIn
import Derived.Lib.Agree
import Derived.Deep.WholeRow
import Derived.Deep.RegionWith
import Derived.Deep.CutRange
namespace Go.Proofs.Ytdglhppcfdpcaaa
open Go Go.RowKit

section
variable {w : World} {g : Nat} {t : TypeId} {cs cur : Array Value}
theorem Blk.setRow (h : Blk w g t cur) (cs : Array Value) : Blk (w.setRow g cs) g t cs := setRow_heap w g cur cs t (0, 0) h
theorem Blk.farRow (h : Blk w g t cs) {k : Nat} (hk : g ≠ k) (c : Array Value) : Blk (w.setRow k c) g t cs := (setRow_other w k g c hk).trans h
/-- A whole row is stored. -/
theorem run_storeRow {P : Program} (hg : Blk w g t cur) (hs : cs.size = cur.size) (h1 : cs.all (·.oneCell') = true) : (storeCells ⟨g, 0, none⟩ cs.toList 0).run P w = .ok () (w.setRow g cs) := by
  have h := run_storeCells_at P g 0 t cs.toList 0 cur w hg (by simp; omega) (fun v hv => (Array.all_eq_true_iff_forall_mem.1 h1) v (by simpa using hv))
  rw [h]
  have e1 : List.take (0 + 0) cur.toList = [] := rfl
  have e2 : List.drop (0 + 0 + cs.toList.length) cur.toList = [] := List.drop_eq_nil_iff.2 (by simp; omega)
  rw [e1, e2, List.nil_append, List.append_nil, Array.toArray_toList]
end

/-- A load and a store inside a fence, by what the variable's load and store run to. -/
theorem wpListIn_load_at {F : Fence} {n : Nat} {P : Program} {ops : Array Oper} {Q : Exit → Act → World → Prop} {a : Act} {w : World} {rest : List Oper} {o : Oper} (hgd : o.guard = none) (ty : TypeId) (x : Operand) (ho : o.op = .load ty x) (p : Addr)
    (hx : a.eval x = .pointer (some p)) (v : Value) (hr : (loadVar ty p).run P w = .ok v w) (h : wpListIn F n P ops Q rest (a.put o.dst v) w) : wpListIn F n P ops Q (o :: rest) a w := by
  refine wpListIn_plain hgd fun K hK => ?_
  unfold Oper.wpIn
  refine ⟨fun f hf => by simp [Oper.about, ho] at hf, ?_⟩
  rw [Oper.semAt_plain F a.eval o (fun c hc => by rw [ho] at hc; cases hc)]
  unfold execOp
  simp only [ho, hx, Instr.loadAt, Instr.sureAddr, Sem.run_bind, Sem.run_pure, Result.andThen_ok, hr]
  exact hK _ _ h
theorem wpListIn_store_at {F : Fence} {n : Nat} {P : Program} {ops : Array Oper} {Q : Exit → Act → World → Prop} {a : Act} {w w' : World} {rest : List Oper} {o : Oper} (hgd : o.guard = none) (ty : TypeId) (x y : Operand) (ho : o.op = .store ty x y) (p : Addr)
    (hx : a.eval x = .pointer (some p)) (v : Value) (hy : a.eval y = v) (hr : (storeVar ty p v).run P w = .ok () w') (h : wpListIn F n P ops Q rest (a.put o.dst undef) w') : wpListIn F n P ops Q (o :: rest) a w := by
  refine wpListIn_plain hgd fun K hK => ?_
  unfold Oper.wpIn
  refine ⟨fun f hf => by simp [Oper.about, ho] at hf, ?_⟩
  rw [Oper.semAt_plain F a.eval o (fun c hc => by rw [ho] at hc; cases hc)]
  unfold execOp
  simp only [ho, hx, hy, Instr.storeAt, Instr.sureAddr, Sem.run_bind, Sem.run_pure, Result.andThen_ok, hr]
  exact hK _ _ h
end Go.Proofs.Ytdglhppcfdpcaaa
namespace Go.Proofs.Ytdglhppcfdpcaaa
open Go.RowKit

/-- Bit i of a list of bytes; none beyond it, and none below. -/
def bitI (xs : List UInt8) (i : Int) : Nat := if i < 0 then 0 else (xs.getD (i.toNat / 8) 0).toNat / 2 ^ (i.toNat % 8) % 2
theorem bitI_neg {xs : List UInt8} {i : Int} (h : i < 0) : bitI xs i = 0 := if_pos h
theorem bitI_nat (xs : List UInt8) (p : Nat) : bitI xs (p : Int) = (xs.getD (p / 8) 0).toNat / 2 ^ (p % 8) % 2 := by
  unfold bitI; rw [if_neg (by omega)]; rfl
theorem bitI_far {xs : List UInt8} {p : Nat} (h : xs.length ≤ p / 8) : bitI xs (p : Int) = 0 := by
  rw [bitI_nat, List.getD_eq_getElem?_getD, List.getElem?_eq_none h]; simp
theorem bitI_lt (xs : List UInt8) (i : Int) : bitI xs i < 2 := by
  unfold bitI; split <;> omega

theorem i64_and1g (n : Nat) (h : n < 9223372036854775808) : bits .and .i64 (n : Int) 1 = ((n % 2 : Nat) : Int) := by
  have h2 : ∀ c : Nat, c < 9223372036854775808 → (BitVec.ofInt 64 (c : Int)).toNat = c := by
    intro c hc
    rw [BitVec.ofInt_natCast, BitVec.toNat_ofNat]; exact Nat.mod_eq_of_lt (by omega)
  show IntKind.i64.wrap ((BitVec.ofInt 64 (n : Int) &&& BitVec.ofInt 64 ((1 : Nat) : Int)).toNat : Int) = _
  rw [BitVec.toNat_and, h2 n h, h2 1 (by omega), IntKind.wrap_i64, Nat.and_one_is_mod]
  omega
theorem i64_and7 (p : Nat) (h : p < 9223372036854775808) : bits .and .i64 (p : Int) 7 = ((p % 8 : Nat) : Int) := by
  have h64 : ∀ c : Nat, c < 9223372036854775808 → (BitVec.ofInt 64 (c : Int)).toNat = c := by
    intro c hc
    rw [BitVec.ofInt_natCast, BitVec.toNat_ofNat]; exact Nat.mod_eq_of_lt (by omega)
  show IntKind.i64.wrap ((BitVec.ofInt 64 (p : Int) &&& BitVec.ofInt 64 ((7 : Nat) : Int)).toNat : Int) = _
  rw [BitVec.toNat_and, h64 _ h, h64 7 (by omega), show p &&& 7 = p % 8 from Nat.and_two_pow_sub_one_eq_mod p 3]
  rw [IntKind.wrap_i64]; omega

end Go.Proofs.Ytdglhppcfdpcaaa
namespace Go.Proofs.Ytdglhppcfdpcaaa
open Go Go.ChangeShapes Go.WideShapes Go.RowKit

def rawV (xs : List UInt8) : Array Value := (xs.map fun x => Value.int .u8 (x.toNat : Int)).toArray
theorem rawV_size (xs : List UInt8) : (rawV xs).size = xs.length := by unfold rawV; simp
theorem rawV_get (xs : List UInt8) {i : Nat} (h : i < xs.length) : (rawV xs)[i]? = some (.int .u8 ((xs.getD i 0).toNat : Int)) := by
  unfold rawV
  rw [List.getElem?_toArray, List.getElem?_map, List.getD_eq_getElem?_getD, List.getElem?_eq_getElem h]
  rfl
theorem rawV_set (xs : List UInt8) (i : Nat) (v : UInt8) : (rawV xs).setIfInBounds i (.int .u8 (v.toNat : Int)) = rawV (xs.set i v) := by
  unfold rawV
  rw [List.setIfInBounds_toArray, List.map_set]
theorem rawV_one (xs : List UInt8) : (rawV xs).all (·.oneCell') = true := by
  rw [Array.all_eq_true_iff_forall_mem]
  intro v hv
  unfold rawV at hv
  simp only [List.mem_toArray, List.mem_map] at hv
  obtain ⟨_, _, rfl⟩ := hv
  rfl
theorem rawV_inj {xs ys : List UInt8} (h : rawV xs = rawV ys) : xs = ys := by
  unfold rawV at h
  have h1 := List.toArray_inj h
  have : ∀ a b : List UInt8, (a.map fun x => Value.int .u8 (x.toNat : Int)) = (b.map fun x => Value.int .u8 (x.toNat : Int)) → a = b := by
    intro a
    induction a with
    | nil => intro b hb; cases b with
      | nil => rfl
      | cons _ _ => simp at hb
    | cons x a ih => intro b hb; cases b with
      | nil => simp at hb
      | cons y b =>
        simp only [List.map_cons, List.cons.injEq, Value.int.injEq, true_and] at hb
        have hxy : x = y := UInt8.toNat_inj.1 (by have := hb.1; omega)
        rw [ih b hb.2, hxy]
  exact this _ _ h1

theorem open_bytes {H : Type} {enc : TypeId × Value → H} {P : Program} {w : World} {base : Nat} {sp : Nat → Bool} {held : Bool} {r : Reach} {b0 : Nat} {t e : TypeId} {n : Nat} {v : Value} {d : DataW H} {p : List MemPlace}
    (ht : P.underlying t = some (.array n e)) (he : P.underlying e = some (.int .u8)) (hc : P.cellsOf e = 1) (hct : P.cellsOf t = n)
    (hv : Value.okWide P w r b0 t v) (h : DataW.Trod enc P w base sp held t v d p) : ∃ xs : List UInt8, xs.length = n ∧ v = .agg (rawV xs) := by
  simp only [Value.okWide, ht] at hv
  obtain ⟨cs, rfl, hs, _⟩ := hv
  obtain ⟨fuel, hf⟩ := h
  obtain ⟨xs, m, _, _, hl, hxl, hel⟩ := DataW.trod_array ht hf
  have hcl : (Value.agg cs).cells.toList = cs.toList := rfl
  have hall : ∀ i, i < n → ∃ z : UInt8, cs.toList[i]? = some (.int .u8 (z.toNat : Int)) := by
    intro i hi
    have h1 := hel i hi
    rw [List.getElem?_eq_getElem (by omega)] at h1
    obtain ⟨a, ea, _, wa⟩ := DataW.trod_int he h1
    rw [hc, Nat.mul_one] at ea
    have hb := bounds_u8 wa
    refine ⟨UInt8.ofNat a.toNat, ?_⟩
    have h2 : cs.toList[i]? = some (.int .u8 a) := by
      have h3 := congrArg (fun l => l[0]?) ea
      simp only [List.getElem?_take_of_lt (show 0 < 1 by omega), List.getElem?_drop, Nat.add_zero] at h3
      exact h3
    rw [h2, UInt8.toNat_ofNat']
    congr 2
    omega
  refine ⟨cs.toList.map (fun v => match v with | .int _ z => UInt8.ofNat z.toNat | _ => 0), by simp [hs, hct], ?_⟩
  have hlst : cs.toList = (cs.toList.map (fun v => match v with | .int _ z => UInt8.ofNat z.toNat | _ => 0)).map fun x => Value.int .u8 (x.toNat : Int) := by
    apply List.ext_getElem?
    intro i
    rw [List.getElem?_map, List.getElem?_map]
    by_cases hi : i < n
    · obtain ⟨z, hz⟩ := hall i hi
      rw [hz]
      simp
    · rw [List.getElem?_eq_none (by rw [Array.length_toList, hs, hct]; omega)]
      rfl
  unfold rawV
  rw [← hlst, Array.toArray_toList]
end Go.Proofs.Ytdglhppcfdpcaaa
namespace Go.Proofs.Ytdglhppcfdpcaaa
open Go.RowKit

def chN (mode : Int) : Nat := if mode = 1 then 9 else if mode = 2 then 36 else 0
def wdN (mode : Int) : Nat := if mode = 1 then 8 else if mode = 2 then 2 else 0
theorem modes (mode : Int) : mode = 1 ∨ mode = 2 ∨ (mode ≠ 1 ∧ mode ≠ 2) := by omega

theorem refChips_any (mode : Int) (w : World) : Calls Try.prog 17 #[.int .i64 mode] w fun e w' => e = .returned (.int .i64 (chN mode : Nat)) ∧ w = w' := by
  rcases modes mode with rfl | rfl | ⟨h1, h2⟩
  · go_enter Try.func17, Try.ntmps17
    go_wp2
    go_ret
    exact ⟨rfl, rfl⟩
  · go_enter Try.func17, Try.ntmps17
    go_wp2
    go_ret
    exact ⟨rfl, rfl⟩
  · have q1 : (mode == 1) = false := by rw [beq_eq_false_iff_ne]; exact h1
    have q2 : (mode == 2) = false := by rw [beq_eq_false_iff_ne]; exact h2
    have HE := Lib.hid (show chN mode = 0 by unfold chN; first | rw [if_neg h1, if_neg h2] | simp [h1, h2])
    clear h1 h2
    go_enter Try.func17, Try.ntmps17
    go_wp2
    go_ret
    exact ⟨by rw [HE.out]; rfl, rfl⟩
theorem chips_any (mode : Int) (w : World) : Calls Try.prog 44 #[.int .i64 mode] w fun e w' => e = .returned (.int .i64 (chN mode : Nat)) ∧ w = w' := by
  rcases modes mode with rfl | rfl | ⟨h1, h2⟩
  · go_enter Try.func44, Try.ntmps44
    go_wp2
    go_ret
    exact ⟨rfl, rfl⟩
  · go_enter Try.func44, Try.ntmps44
    go_wp2
    go_ret
    exact ⟨rfl, rfl⟩
  · have q1 : (mode == 1) = false := by rw [beq_eq_false_iff_ne]; exact h1
    have q2 : (mode == 2) = false := by rw [beq_eq_false_iff_ne]; exact h2
    have HE := Lib.hid (show chN mode = 0 by unfold chN; first | rw [if_neg h1, if_neg h2] | simp [h1, h2])
    clear h1 h2
    go_enter Try.func44, Try.ntmps44
    go_wp2
    go_ret
    exact ⟨by rw [HE.out]; rfl, rfl⟩
def rightB (mode : Int) : Bool := mode == 1 || mode == 2
theorem right_any (mode : Int) (w : World) : Calls Try.prog 40 #[.int .i64 mode] w fun e w' => e = .returned (.bool (rightB mode)) ∧ w = w' := by
  rcases modes mode with rfl | rfl | ⟨h1, h2⟩
  · go_enter Try.func40, Try.ntmps40
    go_wp2
    go_ret
    exact ⟨rfl, rfl⟩
  · go_enter Try.func40, Try.ntmps40
    go_wp2
    go_ret
    exact ⟨rfl, rfl⟩
  · have q1 : (mode == 1) = false := by rw [beq_eq_false_iff_ne]; exact h1
    have q2 : (mode == 2) = false := by rw [beq_eq_false_iff_ne]; exact h2
    have HE := Lib.hid (show rightB mode = false by unfold rightB; first | rw [if_neg h1, if_neg h2] | simp [h1, h2])
    clear h1 h2
    go_enter Try.func40, Try.ntmps40
    go_wp2
    go_ret
    exact ⟨by rw [HE.out]; rfl, rfl⟩
theorem words_any (mode : Int) (w : World) : Calls Try.prog 63 #[.int .i64 mode] w fun e w' => e = .returned (.int .i64 (wdN mode : Nat)) ∧ w = w' := by
  have HR := Lib.hid (right_any mode w)
  have HC := Lib.hid (chips_any mode w)
  rcases modes mode with rfl | rfl | ⟨h1, h2⟩
  case' inr.inr =>
    have HE := Lib.hid (show wdN mode = 0 by unfold wdN; rw [if_neg h1, if_neg h2])
    have hr : rightB mode = false := by unfold rightB; simp [h1, h2]
    rw [hr] at HR
    clear h1 h2 hr HC
    go_enter Try.func63, Try.ntmps63
    go_wp2_with fail
    refine HR.out.mono ?_
    rintro e w' ⟨rfl, rfl⟩
    go_wp2
    go_ret
    exact ⟨by rw [HE.out]; rfl, rfl⟩
  · rw [show rightB 1 = true from rfl] at HR
    rw [show chN 1 = 9 from rfl, show ((9 : Nat) : Int) = 9 from rfl] at HC
    have HE := Lib.hid (show wdN 1 = 8 from rfl)
    go_enter Try.func63, Try.ntmps63
    go_wp2_with fail
    refine HR.out.mono ?_
    rintro e w' ⟨rfl, rfl⟩
    go_wp2_with fail
    refine HC.out.mono ?_
    rintro e w' ⟨rfl, rfl⟩
    go_wp2
    go_ret
    exact ⟨by rw [HE.out]; rfl, rfl⟩
  · rw [show rightB 2 = true from rfl] at HR
    rw [show chN 2 = 36 from rfl, show ((36 : Nat) : Int) = 36 from rfl] at HC
    have HE := Lib.hid (show wdN 2 = 2 from rfl)
    go_enter Try.func63, Try.ntmps63
    go_wp2_with fail
    refine HR.out.mono ?_
    rintro e w' ⟨rfl, rfl⟩
    go_wp2_with fail
    refine HC.out.mono ?_
    rintro e w' ⟨rfl, rfl⟩
    go_wp2
    go_ret
    exact ⟨by rw [HE.out]; rfl, rfl⟩
end Go.Proofs.Ytdglhppcfdpcaaa
namespace Go.Proofs.Ytdglhppcfdpcaaa
open Go.RowKit Go.Shelf
attribute [local go_sem] Oper.semAt_some

theorem of_any (mode chip : Int) (w : World) :
    Calls Try.prog 73 #[.int .i64 mode, .int .i64 chip] w fun e w' =>
      e = .returned (.func (.func 93) #[] #[.pointer (some ⟨w.heap.size, 0, none⟩), .pointer (some ⟨w.heap.size + 1, 0, none⟩)]) ∧ w' = (w.alloc (.cells #[.int .i64 mode] 3)).alloc (.cells #[.int .i64 chip] 3) := by
  go_enter Try.func73, Try.ntmps73
  go_wp2
  go_ret
  exact ⟨rfl, rfl⟩

/-- Where a chip's bytes stand. -/
def ofL (mode chip : Int) : List Nat := if 0 ≤ chip ∧ chip < chN mode then (List.range (wdN mode)).map (fun w => chN mode * w + chip.toNat) else []
theorem ofL_in {mode chip : Int} (h : 0 ≤ chip ∧ chip < chN mode) : ofL mode chip = (List.range (wdN mode)).map (fun w => chN mode * w + chip.toNat) := if_pos h
theorem ofL_out {mode chip : Int} (h : ¬ (0 ≤ chip ∧ chip < chN mode)) : ofL mode chip = [] := if_neg h
theorem chN_le (mode : Int) : chN mode ≤ 36 := by unfold chN; split <;> (try split) <;> omega
theorem wdN_le (mode : Int) : wdN mode ≤ 8 := by unfold wdN; split <;> (try split) <;> omega

set_option maxRecDepth 100000 in
set_option maxHeartbeats 2000000 in
theorem of_iter (m : Nat) (h1 : 1 ≤ m) (bm bc : Nat) (mode chip : Int) :
    Iter3 Fence.wide m Try.prog 93 #[.pointer (some ⟨bm, 0, none⟩), .pointer (some ⟨bc, 0, none⟩)]
      (fun p : Nat => #[.int .i64 (p : Int)]) (ofL mode chip) (fun _ => False) (fun c => c = bm ∨ c = bc)
      (fun W => W.cell? ⟨bm, 0, none⟩ = some (.int .i64 mode) ∧ W.cell? ⟨bc, 0, none⟩ = some (.int .i64 chip)) := by
  intro l J Jx W O hSt hJ hJx hS hO hY h0
  obtain ⟨s1, s2⟩ := hSt
  have hbc : bc < W.heap.size := by
    obtain ⟨o, ho, _⟩ := cells_of_cell s2
    exact (Array.getElem?_eq_some_iff.1 ho).1
  have HC := Lib.hid (chips_any mode W)
  have HD := Lib.hid (words_any mode W)
  have HY := Lib.hid hY
  have H0 := Lib.hid h0
  have HBC := Lib.hid hbc
  have ln := chN_le mode
  have lw := wdN_le mode
  clear hY hJ hJx h0 hS hO hbc
  by_cases hin : 0 ≤ chip ∧ chip < chN mode
  · obtain ⟨c, rfl⟩ := Int.eq_ofNat_of_zero_le hin.1
    have hof := ofL_in hin
    obtain ⟨n, hn⟩ : ∃ n, chN mode = n := ⟨_, rfl⟩
    obtain ⟨d, hd⟩ : ∃ d, wdN mode = d := ⟨_, rfl⟩
    rw [hn] at HC hof hin ln
    rw [hd] at HD hof lw
    have hcn : c < n := by omega
    have hlen : (ofL mode (c : Int)).length = d := by rw [hof, List.length_map, List.length_range]
    have hget : ∀ j, j < d → (ofL mode (c : Int))[j]? = some (n * j + c) := fun j hj => by rw [hof, List.getElem?_map, List.getElem?_range hj]; rfl
    have HLEN := Lib.hid hlen
    have HGET := Lib.hid hget
    clear hin hof hn hd hlen hget
    refine callsIn_of_wp Try.func93 rfl trivial ?_ rfl
    simp only [Try.ntmps93, List.size_toArray, List.length_cons, List.length_nil, Nat.reduceAdd, Nat.reduceSub, Array.replicate_succ, Array.replicate_zero, List.push_toArray, List.append_toArray, List.nil_append, List.cons_append]
    gi_wp2_with fail
    refine ⟨trivial, ?_⟩
    refine (callsIn_wide.2 HC.out).mono ?_
    rintro e w2 ⟨rfl, rfl⟩
    gi_wp2_with fail
    refine ⟨trivial, ?_⟩
    refine (callsIn_wide.2 HD.out).mono ?_
    rintro e w2 ⟨rfl, rfl⟩
    gi_wp2
    gi_loopw [17] (fun i wr => ∃ j : Nat, ∃ O1 : Nat → Prop, j ≤ d ∧ i = .int .i64 j ∧ J j O1 wr ∧ W.heap.size ≤ wr.heap.size ∧ wr.heap[bc]? = W.heap[bc]?) (fun i _ => d - (intOf i).toNat)
    case atStart => exact ⟨0, O, by omega, rfl, H0.out, Nat.le_refl _, rfl⟩
    case round =>
      obtain ⟨j, O1, hj, rfl, hJ, hsz, hbk⟩ := hrel
      by_cases hlt : j < d
      · have e2 : wr.cell? ⟨bc, 0, none⟩ = some (.int .i64 (c : Int)) := by rw [World.cell?_of_block (a := ⟨bc, 0, none⟩) hbk]; exact s2
        obtain ⟨fn, tmps, assign, body, hy, hR⟩ := HY.out j (n * j + c) O1 wr (HGET.out j hlt) hJ hsz
        have hnj : n * j ≤ 36 * 8 := Nat.mul_le_mul ln (by omega)
        obtain ⟨m2, hm2⟩ : ∃ m2, n * j = m2 := ⟨_, rfl⟩
        have hm3 : (n : Int) * (j : Int) = (m2 : Int) := by rw [← hm2]; push_cast; rfl
        rw [hm2] at hy hnj
        push_cast at hy
        have HSZ := Lib.hid (And.intro hsz hbk)
        clear hJ hsz hbk hm2
        gi_wp2
        refine hR.mono ?_
        rintro e W3 ⟨O3, hgr, (⟨rfl, hJ3⟩ | ⟨rfl, hJ3⟩)⟩
        · have HJ3 := Lib.hid hJ3
          have HGR := Lib.hid (And.intro hgr.size (hgr.keep bc (Nat.lt_of_lt_of_le HBC.out HSZ.out.1) (.inr (.inr rfl))))
          clear hJ3 hgr hy hR e2 hm3
          gi_wp2
          go_roundw
          case rel => exact ⟨j + 1, O3, by omega, by go_num, HJ3.out, Nat.le_trans HSZ.out.1 HGR.out.1, HGR.out.2.trans HSZ.out.2⟩
          case measure => simp [intOf]; omega
        · have HJ3 := Lib.hid hJ3
          clear hJ3 hgr hy hR e2 hm3
          gi_wp2
          refine bodyPost_ret (results_none rfl _ _ _) rfl ?_
          exact ⟨⟨_, rfl⟩, .inr ⟨j, by rw [HLEN.out]; exact hlt, O3, HJ3.out⟩⟩
      · obtain rfl : j = d := by omega
        have HJ := Lib.hid hJ
        clear hJ hsz hbk
        gi_wp2
        go_end0
        exact ⟨⟨_, rfl⟩, .inl ⟨O1, by rw [HLEN.out]; exact HJ.out⟩⟩
  · have hof := ofL_out hin
    obtain ⟨n, hn⟩ : ∃ n, chN mode = n := ⟨_, rfl⟩
    rw [hn] at HC hin ln
    have HOF := Lib.hid hof
    clear hof hn lw
    by_cases hc0 : 0 ≤ chip
    · have hc1 : (n : Int) ≤ chip := by omega
      clear hin
      refine callsIn_of_wp Try.func93 rfl trivial ?_ rfl
      simp only [Try.ntmps93, List.size_toArray, List.length_cons, List.length_nil, Nat.reduceAdd, Nat.reduceSub, Array.replicate_succ, Array.replicate_zero, List.push_toArray, List.append_toArray, List.nil_append, List.cons_append]
      gi_wp2_with fail
      refine ⟨trivial, ?_⟩
      refine (callsIn_wide.2 HC.out).mono ?_
      rintro e w2 ⟨rfl, rfl⟩
      gi_wp2
      refine bodyPost_ret (results_none rfl _ _ _) rfl ?_
      exact ⟨⟨_, rfl⟩, .inl ⟨O, by rw [HOF.out]; exact H0.out⟩⟩
    · clear hin
      refine callsIn_of_wp Try.func93 rfl trivial ?_ rfl
      simp only [Try.ntmps93, List.size_toArray, List.length_cons, List.length_nil, Nat.reduceAdd, Nat.reduceSub, Array.replicate_succ, Array.replicate_zero, List.push_toArray, List.append_toArray, List.nil_append, List.cons_append]
      gi_wp2_with fail
      refine ⟨trivial, ?_⟩
      refine (callsIn_wide.2 HC.out).mono ?_
      rintro e w2 ⟨rfl, rfl⟩
      gi_wp2
      refine bodyPost_ret (results_none rfl _ _ _) rfl ?_
      exact ⟨⟨_, rfl⟩, .inl ⟨O, by rw [HOF.out]; exact H0.out⟩⟩
end Go.Proofs.Ytdglhppcfdpcaaa
namespace Go.Proofs.Ytdglhppcfdpcaaa
open Go.RowKit

/-- A word's bytes. -/
def wordB (mode : Int) (xs : List UInt8) (word : Int) : List UInt8 := if 0 ≤ word ∧ word < wdN mode then (xs.drop (chN mode * word.toNat)).take (chN mode) else []
theorem boxRaw (cv : Array Value) (w : World) : (Instr.box 50 (.agg cv)).run Try.prog w = .ok (.pointer (some ⟨w.heap.size, 0, none⟩)) (w.alloc (.cells cv 50)) := rfl
theorem infoB : (Try.prog.info? 5).map (fun i => (i.zero, i.size, i.bytes)) = some (some (.int .u8 0), 1, 1) := by kernel_rfl
theorem mode_fit {mode : Int} {k : Nat} (h : k < wdN mode) : (mode = 1 ∨ mode = 2) ∧ chN mode * k + chN mode ≤ 72 ∧ 9 ≤ chN mode := by
  rcases modes mode with rfl | rfl | ⟨h1, h2⟩
  · have e1 : wdN 1 = 8 := rfl
    have e2 : chN 1 = 9 := rfl
    rw [e1] at h
    rw [e2]; omega
  · have e1 : wdN 2 = 2 := rfl
    have e2 : chN 2 = 36 := rfl
    rw [e1] at h
    rw [e2]; omega
  · have e1 : wdN mode = 0 := by unfold wdN; rw [if_neg h1, if_neg h2]
    omega

theorem rawLen : Try.prog.arrayLen 50 = 72 := by kernel_rfl
theorem rawSize (W : World) : (sizeOf (Try.prog.elem 50)).run Try.prog W = .ok 1 W := by kernel_rfl
theorem addr_addN (g m : Nat) : (⟨g, 0, none⟩ : Addr).add m = ⟨g, m, none⟩ := by unfold Addr.add; split <;> simp_all
theorem rawSlice_lh (g m n : Nat) (hm : m < 72) (h : m + n ≤ 72) (W : World) :
    (Instr.sliceAt 50 (.pointer (some ⟨g, 0, none⟩)) (some (.int .i64 (m : Int))) (some (.int .i64 ((m : Int) + (n : Int)))) none).run Try.prog W = .ok (.slice (some ⟨g, m, none⟩) n (72 - m)) W := by
  rw [run_sliceAt_array_lh (P := Try.prog) (w := W) (t := 50) (a := ⟨g, 0, none⟩) (by kernel_rfl) (kl := .i64) (kh := .i64) (l := (m : Int)) (h := (m : Int) + (n : Int)) (by omega) (by omega) (by rw [rawLen]; omega), rawSize, Result.andThen_ok]
  unfold slicedAt
  rw [rawLen, show ((m : Int) + (n : Int)).toNat = m + n by omega, Int.toNat_natCast, Nat.mul_one, addr_addN, if_neg (by omega), show m + n - m = n by omega]
theorem rawSlice_l (g m : Nat) (hm : m < 72) (W : World) :
    (Instr.sliceAt 50 (.pointer (some ⟨g, 0, none⟩)) (some (.int .i64 (m : Int))) none none).run Try.prog W = .ok (.slice (some ⟨g, m, none⟩) (72 - m) (72 - m)) W := by
  rw [run_sliceAt_array_l (P := Try.prog) (w := W) (t := 50) (a := ⟨g, 0, none⟩) (by kernel_rfl) (kl := .i64) (l := (m : Int)) (by omega) (by rw [rawLen]; omega), rawSize, Result.andThen_ok]
  unfold slicedAt
  rw [rawLen, Int.toNat_natCast, Nat.mul_one, addr_addN, if_neg (by omega)]
theorem rawSlice_all (g : Nat) (W : World) :
    (Instr.sliceAt 50 (.pointer (some ⟨g, 0, none⟩)) none none none).run Try.prog W = .ok (.slice (some ⟨g, 0, none⟩) 72 72) W := by
  rw [run_sliceAt_array_all (P := Try.prog) (w := W) (t := 50) (a := ⟨g, 0, none⟩) (by kernel_rfl), rawSize, Result.andThen_ok]
  unfold slicedAt
  rw [rawLen, Nat.zero_mul, addr_addN, if_neg (by omega)]

set_option maxRecDepth 100000 in
set_option maxHeartbeats 1000000 in
theorem word_any (xs : List UInt8) (hl : xs.length = 72) (mode word : Int) (w : World) :
    Calls Try.prog 69 #[.agg (rawV xs), .int .i64 mode, .int .i64 word] w fun e w' => ∃ A c, e = .returned (.slice A (wordB mode xs word).length c) ∧ RdB w' A (wordB mode xs word) ∧ Below w.heap.size w w' := by
  have hb := boxRaw (rawV xs)
  have CG := fun i (hi : i < 72) => rawV_get xs (i := i) (by rw [hl]; exact hi)
  have HD := Lib.hid (fun w => words_any mode w)
  have HC := Lib.hid (fun w => chips_any mode w)
  by_cases hin : 0 ≤ word ∧ word < wdN mode
  · obtain ⟨k, rfl⟩ := Int.eq_ofNat_of_zero_le hin.1
    have hwb : wordB mode xs (k : Int) = (xs.drop (chN mode * k)).take (chN mode) := if_pos hin
    obtain ⟨_, hfit, h9⟩ := mode_fit (mode := mode) (k := k) (by omega)
    obtain ⟨d, hd⟩ : ∃ d, wdN mode = d := ⟨_, rfl⟩
    obtain ⟨n, hn⟩ : ∃ n, chN mode = n := ⟨_, rfl⟩
    rw [hd] at HD hin
    rw [hn] at HC hwb hfit h9
    have hlen : (wordB mode xs (k : Int)).length = n := by rw [hwb, List.length_take, List.length_drop]; omega
    have hget : ∀ j, j < n → (wordB mode xs (k : Int)).getD j 0 = xs.getD (n * k + j) 0 := fun j hj => by
      rw [hwb, List.getD_eq_getElem?_getD, List.getD_eq_getElem?_getD, List.getElem?_take_of_lt hj, List.getElem?_drop]
    obtain ⟨B, hB⟩ : ∃ B, wordB mode xs (k : Int) = B := ⟨_, rfl⟩
    rw [hB] at hlen hget ⊢
    obtain ⟨m, hm⟩ : ∃ m, n * k = m := ⟨_, rfl⟩
    have hm3 : (n : Int) * (k : Int) = (m : Int) := by rw [← hm]; push_cast; rfl
    rw [hm] at hfit hget
    obtain ⟨cv, hcv⟩ : ∃ cv, rawV xs = cv := ⟨_, rfl⟩
    rw [hcv] at hb CG ⊢
    obtain ⟨i0, hi, hz0, hz1, hz2⟩ := info_parts infoB
    have HI0 := Lib.hid (And.intro hi (And.intro hz0 (And.intro hz1 hz2)))
    have i1 : ¬ ((d : Int) ≤ (k : Int)) := by omega
    have HLEN := Lib.hid hlen
    have HGET := Lib.hid hget
    have HCG := Lib.hid CG
    clear hin hwb hd hn hlen hget hB hm hcv CG hi hz0 hz1 hz2 hl
    go_enter Try.func69, Try.ntmps69
    go_wp2_with fail
    refine (HD.out _).mono ?_
    rintro e w' ⟨rfl, rfl⟩
    go_wp2_with fail
    refine (HC.out _).mono ?_
    rintro e w' ⟨rfl, rfl⟩
    clear hb
    obtain ⟨g, hg⟩ : ∃ g, w.heap.size = g := ⟨_, rfl⟩
    rw [hg]
    have hsl := rawSlice_lh g m n (by omega) hfit
    have HG := Lib.hid hg
    obtain ⟨W, hW⟩ : ∃ W, w.alloc (.cells cv 50) = W := ⟨_, rfl⟩
    rw [hW]
    have hbk : Blk W g 50 cv := by rw [← hW, ← hg]; exact Blk.new w _ _
    have hzw : W.heap.size = g + 1 := by rw [← hW, ← hg]; simp
    have HW := Lib.hid hW
    have HBK := Lib.hid hbk
    have HZW := Lib.hid hzw
    clear hg hW hbk hzw
    have hown : (W.alloc (.cells #[] 5)).ownsRow (g + 1) 5 1 (.slice (some ⟨W.heap.size, 0, none⟩) 0 0) 0 [] :=
      ⟨rfl, .inr ⟨W.heap.size, 0, #[], rfl, by rw [HZW.out]; exact Nat.le_refl _, Blk.new W _ _, Nat.le_refl _, Nat.zero_le _, rfl, rfl⟩⟩
    have HOWN := Lib.hid hown
    clear hown
    go_wp2_with (at_builtin; go_must (refine wpList_append_own _ rfl (.tmp 18) (.tmp 27) 89 rfl (g + 1) 5 i0 (.int .u8 0) 1 1 Try.underlying89 HI0.out.1 HI0.out.2.1 HI0.out.2.2.1 HI0.out.2.2.2 rfl (by decide) _ 0 [] rfl HOWN.out ⟨g, m, none⟩ n (72 - m) (B.map fun x => Value.int .u8 (x.toNat : Int)) rfl ?c1 ?c2 ?c3 ?c4 ?c5 ?c6 ?_))
    case c1 => rw [List.length_map, HLEN.out, Nat.mul_one]
    case c2 =>
      intro j u hu
      have hj : j < n := by have := (List.getElem?_eq_some_iff.1 hu).1; rw [List.length_map, HLEN.out] at this; exact this
      have hadd : (⟨g, m, none⟩ : Addr).add j = ⟨g, m + j, none⟩ := by unfold Addr.add; split <;> simp_all
      have h1 : (W.alloc (.cells #[] 5)).cell? ⟨g, m + j, none⟩ = cv[m + j]? := (HBK.out.alloc _).cell (m + j)
      rw [hadd]
      refine h1.trans ?_
      rw [HCG.out (m + j) (by omega), ← HGET.out j hj, ← hu, List.getElem?_map, List.getD_eq_getElem?_getD, List.getElem?_eq_getElem (by rw [HLEN.out]; exact hj)]
      rfl
    case c3 =>
      intro u hu
      obtain ⟨_, _, rfl⟩ := List.mem_map.1 hu
      rfl
    case c4 => unfold maxLen; omega
    case c5 => omega
    case c6 => simp [World.size_alloc, HZW.out]
    intro v' w1 hown1 hgrow _
    rcases hown1 with ⟨_, ⟨_, h0⟩ | ⟨g', cap, cur, rfl, hg', hbk', hcap, _, hsz', htk⟩⟩
    · omega
    · have hsz : (W.alloc (.cells #[] 5)).heap.size = g + 2 := by simp [HZW.out]
      have hb1 : Below (g + 1) (W.alloc (.cells #[] 5)) w1 := ⟨hgrow.os, hgrow.tape, hgrow.output, by have := hgrow.size; rw [hsz] at this; omega, fun b hb => hgrow.block b (by rw [hsz]; omega) (by
        show some b ≠ some W.heap.size
        rw [HZW.out]; intro e; cases e; omega)⟩
      have hb2 : Below g w w1 := by
        have h1 : Below g w W := by rw [← HW.out]; exact (Below.refl _ w).alloc (by rw [HG.out]; exact Nat.le_refl _) _
        exact (h1.alloc (by rw [HZW.out]; omega) _).trans (hb1.mono (by omega))
      have hrd : RdB w1 (some ⟨g', 0, none⟩) B := RdB.ofBlk hbk' fun k' hk' => by
        rw [HLEN.out] at hk'
        have h3 := congrArg (fun l => l[k']?) htk
        simp only [Nat.mul_one] at h3
        rw [List.getElem?_take_of_lt hk', Array.getElem?_toList] at h3
        rw [h3, List.getElem?_map, List.getD_eq_getElem?_getD, List.getElem?_eq_getElem (by rw [HLEN.out]; exact hk')]
        rfl
      have HB2 := Lib.hid hb2
      have HRD := Lib.hid hrd
      clear hgrow hbk' htk hsz' hb1 hb2 hrd hsz hsl
      go_wp2
      go_ret
      refine ⟨_, cap, ?_, HRD.out, by rw [HG.out]; exact HB2.out⟩
      rw [HLEN.out]
      simp
  · have hwb : wordB mode xs word = [] := if_neg hin
    rw [hwb]
    obtain ⟨cv, hcv⟩ : ∃ cv, rawV xs = cv := ⟨_, rfl⟩
    rw [hcv] at hb ⊢
    obtain ⟨d, hd⟩ : ∃ d, wdN mode = d := ⟨_, rfl⟩
    rw [hd] at HD hin
    clear hwb CG hcv hd HC
    by_cases h0 : 0 ≤ word
    · have i1 : (d : Int) ≤ word := by omega
      clear hin
      go_enter Try.func69, Try.ntmps69
      go_wp2_with fail
      refine (HD.out _).mono ?_
      rintro e w' ⟨rfl, rfl⟩
      go_wp2
      go_ret
      exact ⟨none, 0, rfl, RdB.nil, (Below.refl _ w).alloc (Nat.le_refl _) _⟩
    · clear hin
      go_enter Try.func69, Try.ntmps69
      go_wp2
      go_ret
      exact ⟨none, ⟨0, rfl⟩, RdB.nil, (Below.refl _ w).alloc (Nat.le_refl _) _⟩

theorem wpList_copy_run {P : Program} {w w' : World} {ops : Array Oper} {rest : List Oper} {o : Oper} {a : Act} {Q : Exit → Act → World → Prop} (hgd : o.guard = none) (d s : Operand) (dT sT ty : TypeId)
    (ho : o.op = .call { callee := .builtin .copy, args := #[d, s], argTypes := #[dT, sT] }) (hty : o.type = ty) (dv sv v : Value) (hd : a.eval d = dv) (hs : a.eval s = sv)
    (hr : (Builtin.copy_ #[dT, sT] ty #[dv, sv]).run P w = .ok v w') (h : wpList P ops Q rest (a.put o.dst v) w') : wpList P ops Q (o :: rest) a w := by
  subst hty
  refine wpList_plain hgd fun K hK => ?_
  unfold Oper.wp execOp
  simp only [ho, resolve, invoke, builtin, Sem.run_bind, Sem.run_pure, Result.andThen_ok, List.map_toArray, List.map_cons, List.map_nil, hd, hs, hr]
  exact hK _ _ h

/-- A word's bytes put. -/
def putB (mode : Int) (xs : List UInt8) (word : Int) (b : List UInt8) : List UInt8 :=
  if (0 ≤ word ∧ word < wdN mode) ∧ b.length = chN mode then xs.take (chN mode * word.toNat) ++ b ++ xs.drop (chN mode * word.toNat + chN mode) else xs
theorem putB_len {mode : Int} {xs : List UInt8} {word : Int} {b : List UInt8} (h : xs.length = 72) : (putB mode xs word b).length = 72 := by
  unfold putB
  split
  · rename_i hc
    obtain ⟨⟨h0, h1⟩, h2⟩ := hc
    obtain ⟨k, rfl⟩ := Int.eq_ofNat_of_zero_le h0
    obtain ⟨_, hf, _⟩ := mode_fit (mode := mode) (k := k) (by omega)
    rw [Int.toNat_natCast, List.length_append, List.length_append, List.length_take, List.length_drop, h2]
    omega
  · exact h
theorem infoRaw : (Try.prog.info? 50).map (·.size) = some 72 := by kernel_rfl
def zero72 : List UInt8 := List.replicate 72 0
theorem zeroRaw (w : World) : (zeroValue 50).run Try.prog w = .ok (.agg (rawV zero72)) w := by kernel_rfl

set_option maxRecDepth 100000 in
set_option maxHeartbeats 1000000 in
theorem put_any (xs : List UInt8) (hl : xs.length = 72) (mode word : Int) (A : Option Addr) (n c : Nat) (ys : List UInt8) (hn : ys.length = n) (w : World) (hy : RdB w A ys) :
    Calls Try.prog 33 #[.agg (rawV xs), .int .i64 mode, .int .i64 word, .slice A n c] w fun e w' => e = .returned (.agg (rawV (putB mode xs word ys))) ∧ Below w.heap.size w w' := by
  have hb := boxRaw (rawV xs)
  have hz := zeroRaw
  have HD := Lib.hid (fun w => words_any mode w)
  have HC := Lib.hid (fun w => chips_any mode w)
  have hsz0 : (rawV xs).size = 72 := by rw [rawV_size, hl]
  have hinf : ∀ zs : List UInt8, zs.length = 72 → (Try.prog.info? 50).map (·.size) = some (rawV zs).size := fun zs hz => by rw [rawV_size, hz]; exact infoRaw
  obtain ⟨d, hd⟩ : ∃ d, wdN mode = d := ⟨_, rfl⟩
  obtain ⟨m, hm⟩ : ∃ m, chN mode = m := ⟨_, rfl⟩
  obtain ⟨g, hg⟩ : ∃ g, w.heap.size = g := ⟨_, rfl⟩
  obtain ⟨W, hW⟩ : ∃ W, (w.alloc (.cells (rawV xs) 50)).alloc (.cells (rawV zero72) 50) = W := ⟨_, rfl⟩
  have k0 : Blk W g 50 (rawV xs) := by rw [← hW, ← hg]; exact (Blk.new w _ _).alloc _
  have k1 : Blk W (g + 1) 50 (rawV zero72) := by
    rw [← hW, ← hg]; have h := Blk.new (w.alloc (.cells (rawV xs) 50)) 50 (rawV zero72)
    rw [World.size_alloc] at h; exact h
  have kb : Below g w W := by rw [← hW, ← hg]; exact ((Below.refl _ w).alloc (Nat.le_refl _) _).alloc (by simp) _
  have kr : RdB W A ys := hy.below (by rw [hg]; exact kb)
  by_cases hin : (0 ≤ word ∧ word < wdN mode) ∧ ys.length = chN mode
  · have hp : putB mode xs word ys = xs.take (chN mode * word.toNat) ++ ys ++ xs.drop (chN mode * word.toNat + chN mode) := if_pos hin
    have hpl := putB_len (mode := mode) (word := word) (b := ys) hl
    obtain ⟨⟨q0, q1⟩, q2⟩ := hin
    obtain ⟨k, rfl⟩ := Int.eq_ofNat_of_zero_le q0
    obtain ⟨_, hfit, h9⟩ := mode_fit (mode := mode) (k := k) (by omega)
    rw [Int.toNat_natCast] at hp
    rw [hd] at HD q1
    rw [hm] at HC hp hfit h9 q2
    obtain rfl : n = m := by omega
    obtain ⟨s0, hs⟩ : ∃ s0, n * k = s0 := ⟨_, rfl⟩
    have hs3 : (n : Int) * (k : Int) = (s0 : Int) := by rw [← hs]; push_cast; rfl
    rw [hs] at hp hfit
    obtain ⟨PB, hPB⟩ : ∃ PB, putB mode xs (k : Int) ys = PB := ⟨_, rfl⟩
    rw [hPB] at hp hpl ⊢
    have hsl := rawSlice_l g s0 (by omega)
    obtain ⟨b, o, hA, hlb, _⟩ := kr 0 (by omega)
    subst hA
    have hsrc : ∀ (j : Nat) (v : Value), (ys.map fun x => Value.int .u8 (x.toNat : Int))[j]? = some v → W.cell? ((⟨b, o, none⟩ : Addr).add j) = some v := fun j v hv => by
      have hj : j < ys.length := by have := (List.getElem?_eq_some_iff.1 hv).1; rwa [List.length_map] at this
      obtain ⟨b', o', hA', _, hc'⟩ := kr j hj
      cases hA'
      have hadd : (⟨b, o, none⟩ : Addr).add j = ⟨b, o + j, none⟩ := by unfold Addr.add; split <;> simp_all
      rw [hadd, hc', ← hv, List.getElem?_map, List.getD_eq_getElem?_getD, List.getElem?_eq_getElem hj]
      rfl
    have hcp := run_copy_row Try.prog W 89 89 3 5 g s0 (72 - s0) (72 - s0) ⟨b, o, none⟩ n c (rawV xs) 50 (ys.map fun x => Value.int .u8 (x.toNat : Int)) Try.underlying89 (by kernel_rfl) k0
      (by rw [List.length_map, hn]; exact (Nat.min_eq_left (by omega)).symm) hsrc (by rw [List.length_map, hn, hsz0]; omega) (fun v hv => by obtain ⟨_, _, rfl⟩ := List.mem_map.1 hv; rfl)
    have hnew : ((rawV xs).toList.take s0 ++ (ys.map fun x => Value.int .u8 (x.toNat : Int)) ++ (rawV xs).toList.drop (s0 + (ys.map fun x => Value.int .u8 (x.toNat : Int)).length)).toArray = rawV PB := by
      rw [hp, List.length_map, hn]
      unfold rawV
      rw [List.map_append, List.map_append, List.map_take, List.map_drop]
    rw [hnew] at hcp
    have hx := And.intro ((k0.setRow (rawV PB) : Blk (W.setRow g (rawV PB)) g 50 (rawV PB))) (And.intro (k1.farRow (k := g) (by omega) (rawV PB)) (And.intro (hinf PB hpl) (And.intro (show (rawV zero72).size = (rawV PB).size by rw [rawV_size, rawV_size, hpl]; rfl) (And.intro (rawV_one PB) (below_setRow kb (Nat.le_refl _) (rawV PB))))))
    obtain ⟨cv2, hcv⟩ : ∃ cv, rawV PB = cv := ⟨_, rfl⟩
    obtain ⟨cv, hcv0⟩ : ∃ cv, rawV xs = cv := ⟨_, rfl⟩
    rw [hcv] at hcp hx ⊢
    rw [hcv0] at hb hW ⊢
    have HX := Lib.hid hx
    have HG := Lib.hid hg
    have HCP := Lib.hid hcp
    have i1 : (k : Int) < (d : Int) := q1
    clear hp hpl hcv hcv0 hsz0 hinf hx kr hy k0 k1 kb hd hm hl hcp hnew hsrc hPB hs hn q0 q1 q2
    go_enter Try.func33, Try.ntmps33
    go_wp2_with fail
    clear hb hz hW hg
    refine (HC.out _).mono ?_
    rintro e w' ⟨rfl, rfl⟩
    go_wp2_with fail
    refine (HD.out _).mono ?_
    rintro e w' ⟨rfl, rfl⟩
    go_wp2_with (first
      | (refine wpList_copy_run rfl (.tmp 29) (.tmp 30) 89 89 3 rfl rfl _ _ _ rfl rfl HCP.out ?_)
      | (refine wpList_load_row rfl 50 (.tmp 4) rfl g rfl 50 cv2 (0, 0) _ HX.out.1 Try.underlying50 rfl HX.out.2.2.1 ?_)
      | (refine wpList_store_row rfl 50 (.tmp 8) (.tmp 32) rfl (g + 1) cv2 rfl rfl 50 (rawV zero72) HX.out.2.1 HX.out.2.2.1 HX.out.2.2.2.1 HX.out.2.2.2.2.1 ?_))
    refine bodyPost_ret (v := .agg cv2) (results_cell_row rfl _ _ (g + 1) 50 cv2 (0, 0) _ rfl (HX.out.2.1.setRow _) Try.underlying50 rfl HX.out.2.2.1) rfl ⟨rfl, ?_⟩
    rw [HG.out]
    exact below_setRow HX.out.2.2.2.2.2 (by omega) _
  · have hp : putB mode xs word ys = xs := if_neg hin
    rw [hp]
    have hx := And.intro k0 (And.intro k1 (And.intro (hinf xs hl) (And.intro (show (rawV zero72).size = (rawV xs).size by rw [hsz0, rawV_size]; rfl) (And.intro (rawV_one xs) kb))))
    obtain ⟨cv2, hcv⟩ : ∃ cv, rawV xs = cv := ⟨_, rfl⟩
    rw [hcv] at hb hx hW ⊢
    rw [hd, hm] at hin
    rw [hd] at HD
    rw [hm] at HC
    have HX := Lib.hid hx
    have HG := Lib.hid hg
    have HN := Lib.hid hn
    clear hp hcv hsz0 hinf hx kr hy k0 k1 kb hd hm hl
    by_cases h0 : 0 ≤ word
    · by_cases h1 : word < d
      · have h2 : ((n : Int) == (m : Int)) = false := by rw [beq_eq_false_iff_ne]; intro h; exact hin ⟨⟨h0, h1⟩, by have := HN.out; omega⟩
        clear hin hn
        go_enter Try.func33, Try.ntmps33
        go_wp2_with fail
        clear hb hz hW hg
        refine (HC.out _).mono ?_
        rintro e w' ⟨rfl, rfl⟩
        go_wp2_with fail
        refine (HD.out _).mono ?_
        rintro e w' ⟨rfl, rfl⟩
        go_wp2_with (first
          | fail
          | (refine wpList_load_row rfl 50 (.tmp 4) rfl g rfl 50 cv2 (0, 0) _ HX.out.1 Try.underlying50 rfl HX.out.2.2.1 ?_)
          | (refine wpList_store_row rfl 50 (.tmp 8) (.tmp 32) rfl (g + 1) cv2 rfl rfl 50 (rawV zero72) HX.out.2.1 HX.out.2.2.1 HX.out.2.2.2.1 HX.out.2.2.2.2.1 ?_))
        refine bodyPost_ret (v := .agg cv2) (results_cell_row rfl _ _ (g + 1) 50 cv2 (0, 0) _ rfl (HX.out.2.1.setRow _) Try.underlying50 rfl HX.out.2.2.1) rfl ⟨rfl, ?_⟩
        rw [HG.out]
        exact below_setRow HX.out.2.2.2.2.2 (by omega) _
      · have h2 : (d : Int) ≤ word := by omega
        clear hin hn
        go_enter Try.func33, Try.ntmps33
        go_wp2_with fail
        clear hb hz hW hg
        refine (HC.out _).mono ?_
        rintro e w' ⟨rfl, rfl⟩
        go_wp2_with fail
        refine (HD.out _).mono ?_
        rintro e w' ⟨rfl, rfl⟩
        go_wp2_with (first
          | fail
          | (refine wpList_load_row rfl 50 (.tmp 4) rfl g rfl 50 cv2 (0, 0) _ HX.out.1 Try.underlying50 rfl HX.out.2.2.1 ?_)
          | (refine wpList_store_row rfl 50 (.tmp 8) (.tmp 32) rfl (g + 1) cv2 rfl rfl 50 (rawV zero72) HX.out.2.1 HX.out.2.2.1 HX.out.2.2.2.1 HX.out.2.2.2.2.1 ?_))
        refine bodyPost_ret (v := .agg cv2) (results_cell_row rfl _ _ (g + 1) 50 cv2 (0, 0) _ rfl (HX.out.2.1.setRow _) Try.underlying50 rfl HX.out.2.2.1) rfl ⟨rfl, ?_⟩
        rw [HG.out]
        exact below_setRow HX.out.2.2.2.2.2 (by omega) _
    · clear hin hn
      go_enter Try.func33, Try.ntmps33
      go_wp2_with fail
      clear hb hz hW hg
      refine (HC.out _).mono ?_
      rintro e w' ⟨rfl, rfl⟩
      go_wp2_with (first
        | fail
        | (refine wpList_load_row rfl 50 (.tmp 4) rfl g rfl 50 cv2 (0, 0) _ HX.out.1 Try.underlying50 rfl HX.out.2.2.1 ?_)
        | (refine wpList_store_row rfl 50 (.tmp 8) (.tmp 32) rfl (g + 1) cv2 rfl rfl 50 (rawV zero72) HX.out.2.1 HX.out.2.2.1 HX.out.2.2.2.1 HX.out.2.2.2.2.1 ?_))
      refine bodyPost_ret (v := .agg cv2) (results_cell_row rfl _ _ (g + 1) 50 cv2 (0, 0) _ rfl (HX.out.2.1.setRow _) Try.underlying50 rfl HX.out.2.2.1) rfl ⟨rfl, ?_⟩
      rw [HG.out]
      exact below_setRow HX.out.2.2.2.2.2 (by omega) _
end Go.Proofs.Ytdglhppcfdpcaaa
namespace Go.Proofs.Ytdglhppcfdpcaaa
open Go.RowKit

theorem eqItems_raw (xs ys : List UInt8) (hl : xs.length = 72) (hm : ys.length = 72) (w : World) : ∀ is : List Nat, (∀ i ∈ is, i < 72) →
    (Op.eqItems 9999 5 1 (rawV xs) (rawV ys) is).run Try.prog w = .ok (is.all fun i => xs.getD i 0 == ys.getD i 0) w
  | [], _ => by simp [Op.eqItems]
  | i :: is, h => by
    have hi := h i (List.mem_cons_self ..)
    have ih := eqItems_raw xs ys hl hm w is fun j hj => h j (List.mem_cons_of_mem _ hj)
    have ha : ∀ w, (isAgg 5).run Try.prog w = .ok false w := fun w => by kernel_rfl
    have h1 := rawV_get xs (i := i) (by omega)
    have h2 := rawV_get ys (i := i) (by omega)
    have he : ∀ w, (Op.equalIn 9999 5 (.int .u8 ((xs.getD i 0).toNat : Int)) (.int .u8 ((ys.getD i 0).toNat : Int))).run Try.prog w = .ok (((xs.getD i 0).toNat : Int) == ((ys.getD i 0).toNat : Int)) w := fun w => run_equalIn_int w 9998 5 .u8 .u8 _ _ Try.underlying5
    have hb : (((xs.getD i 0).toNat : Int) == ((ys.getD i 0).toNat : Int)) = (xs.getD i 0 == ys.getD i 0) := by
      rw [Bool.eq_iff_iff, beq_iff_eq, beq_iff_eq, ← UInt8.toNat_inj]
      exact Int.natCast_inj
    simp only [Op.eqItems, Sem.run_bind, part, ha, Result.andThen_ok, Nat.mul_one, h1, h2, Bool.false_eq_true, if_false, Sem.run_pure, he, hb, List.all_cons]
    cases xs.getD i 0 == ys.getD i 0
    · simp
    · simpa using ih
theorem all_raw (xs ys : List UInt8) (hl : xs.length = 72) (hm : ys.length = 72) : ((List.range 72).all fun i => xs.getD i 0 == ys.getD i 0) = decide (xs = ys) := by
  rw [Bool.eq_iff_iff, List.all_eq_true, decide_eq_true_eq]
  constructor
  · intro h
    refine List.ext_getElem (by rw [hl, hm]) fun i h1 h2 => ?_
    have h3 := h i (List.mem_range.2 (by omega))
    rw [beq_iff_eq, List.getD_eq_getElem?_getD, List.getD_eq_getElem?_getD, List.getElem?_eq_getElem h1, List.getElem?_eq_getElem h2] at h3
    simpa using h3
  · rintro rfl i _
    exact beq_self_eq_true _
theorem eq_raw (xs ys : List UInt8) (hl : xs.length = 72) (hm : ys.length = 72) (w : World) :
    (Op.equalIn 10000 50 (.agg (rawV xs)) (.agg (rawV ys))).run Try.prog w = .ok (decide (xs = ys)) w := by
  obtain ⟨i, hi⟩ : ∃ i, Try.prog.info? 5 = some i := Option.isSome_iff_exists.1 (by kernel_rfl)
  rw [run_equalIn_array w 9999 (rawV xs) (rawV ys) Try.underlying50 hi, show Try.prog.cellsOf 5 = 1 by kernel_rfl, eqItems_raw xs ys hl hm w _ fun i hi => List.mem_range.1 hi, all_raw xs ys hl hm]
theorem guard_raw : Try.prog.eqGuardType Try.prog.depth 50 = false := by kernel_rfl
/-- A guarded load inside a fence, its guard held. -/
theorem wpListIn_load_want {F : Fence} {n : Nat} {P : Program} {ops : Array Oper} {Q : Exit → Act → World → Prop} {a : Act} {w : World} {rest : List Oper} {o : Oper} (hw : Region.wanted o (yielded ops a.tmps) = true) (ty : TypeId) (x : Operand) (ho : o.op = .load ty x) (p : Addr)
    (hx : a.eval x = .pointer (some p)) (v : Value) (hr : (loadVar ty p).run P w = .ok v w) (h : wpListIn F n P ops Q rest (a.put o.dst v) w) : wpListIn F n P ops Q (o :: rest) a w := by
  refine wpListIn_step fun K hK => ?_
  rw [hw, if_pos rfl]
  unfold Oper.wpIn
  refine ⟨fun f hf => by simp [Oper.about, ho] at hf, ?_⟩
  rw [Oper.semAt_plain F a.eval o (fun c hc => by rw [ho] at hc; cases hc)]
  unfold execOp
  simp only [ho, hx, Instr.loadAt, Instr.sureAddr, Sem.run_bind, Sem.run_pure, Result.andThen_ok, hr]
  exact hK _ _ h
end Go.Proofs.Ytdglhppcfdpcaaa
namespace Go.Proofs.Ytdglhppcfdpcaaa
open Go.RowKit

/-- A list of bytes with bit i turned; beyond it: as it was. -/
def flipI (xs : List UInt8) (i : Int) : List UInt8 := if 0 ≤ i ∧ i.toNat / 8 < xs.length then xs.set (i.toNat / 8) (xs.getD (i.toNat / 8) 0 ^^^ UInt8.ofNat (2 ^ (i.toNat % 8))) else xs
theorem flipI_length (xs : List UInt8) (i : Int) : (flipI xs i).length = xs.length := by unfold flipI; split <;> simp
theorem flipI_out {xs : List UInt8} {i : Int} (h : ¬ (0 ≤ i ∧ i.toNat / 8 < xs.length)) : flipI xs i = xs := if_neg h
theorem flipI_in {xs : List UInt8} {p : Nat} (h : p / 8 < xs.length) : flipI xs (p : Int) = xs.set (p / 8) (xs.getD (p / 8) 0 ^^^ UInt8.ofNat (2 ^ (p % 8))) := by
  unfold flipI; rw [if_pos ⟨by omega, h⟩]; rfl

theorem set_cells {cs : Array Value} {xs : List UInt8} (h : ∀ k, k < xs.length → cs[k]? = some (.int .u8 ((xs.getD k 0).toNat : Int))) (q : Nat) (v : UInt8) :
    ∀ k, k < (xs.set q v).length → (cs.setIfInBounds q (.int .u8 (v.toNat : Int)))[k]? = some (.int .u8 (((xs.set q v).getD k 0).toNat : Int)) := by
  intro k hk
  rw [List.length_set] at hk
  have h2 := h k hk
  have hsz : k < cs.size := (Array.getElem?_eq_some_iff.1 h2).1
  rw [Array.getElem?_setIfInBounds, List.getD_eq_getElem?_getD, List.getElem?_set]
  by_cases hkq : q = k
  · rw [if_pos hkq, if_pos hkq, if_pos (by omega), if_pos (by omega)]; rfl
  · rw [if_neg hkq, if_neg hkq, h2, List.getD_eq_getElem?_getD]
theorem u8_xorF (a b : UInt8) : bits .xor .u8 (a.toNat : Int) (b.toNat : Int) = ((a ^^^ b).toNat : Int) := by
  have ha := a.toNat_lt
  have hb := b.toNat_lt
  have h8 : ∀ c : Nat, c < 256 → (BitVec.ofInt 8 (c : Int)).toNat = c := by
    intro c hc
    rw [BitVec.ofInt_natCast, BitVec.toNat_ofNat]; exact Nat.mod_eq_of_lt (by omega)
  have hx : a.toNat ^^^ b.toNat < 2 ^ 8 := Nat.xor_lt_two_pow ha hb
  show IntKind.u8.wrap ((BitVec.ofInt 8 (a.toNat : Int) ^^^ BitVec.ofInt 8 (b.toNat : Int)).toNat : Int) = _
  rw [BitVec.toNat_xor, h8 _ ha, h8 _ hb, UInt8.toNat_xor]
  exact IntWalk.u8_in _ (by omega)
end Go.Proofs.Ytdglhppcfdpcaaa
namespace Go.Proofs.Ytdglhppcfdpcaaa
open Go.RowKit

/-- The unlike bits of the first k pairs of bytes. -/
def dfB (xs ys : List UInt8) : Nat → Nat
  | 0 => 0
  | k + 1 => dfB xs ys k + pc (xs.getD k 0 ^^^ ys.getD k 0).toNat
theorem dfB_comm (xs ys : List UInt8) (k : Nat) : dfB xs ys k = dfB ys xs k := by
  induction k with
  | zero => rfl
  | succ k ih => rw [dfB, dfB, ih, UInt8.xor_comm]
theorem dfB_le (xs ys : List UInt8) (k : Nat) : dfB xs ys k ≤ 64 * k := by
  induction k with
  | zero => exact Nat.le_refl 0
  | succ k ih => rw [dfB]; have := pc_le (xs.getD k 0 ^^^ ys.getD k 0).toNat; omega
def dI (xs ys : List UInt8) : Nat := 8 * (max xs.length ys.length - min xs.length ys.length) + dfB xs ys (min xs.length ys.length)

end Go.Proofs.Ytdglhppcfdpcaaa
namespace Go.Proofs.Ytdglhppcfdpcaaa
open Go.RowKit

/-- The unlike bytes of the first k pairs. -/
def ulB (xs ys : List UInt8) : Nat → Nat
  | 0 => 0
  | k + 1 => ulB xs ys k + if xs.getD k 0 = ys.getD k 0 then 0 else 1
theorem ulB_le (xs ys : List UInt8) (k : Nat) : ulB xs ys k ≤ k := by
  induction k with
  | zero => exact Nat.le_refl 0
  | succ k ih => rw [ulB]; split <;> omega
def ul (mode : Int) (xs ys : List UInt8) : Nat := if mode = 1 then dI xs ys else ulB xs ys xs.length

end Go.Proofs.Ytdglhppcfdpcaaa
namespace Go.Proofs.Ytdglhppcfdpcaaa
open Go.RowKit Go.Shelf
attribute [local go_sem] Oper.semAt_some

/-- A chip's bytes set: the first i of them, and all. -/
def chipP (mode : Int) (xs : List UInt8) (chip : Int) (v : UInt8) (i : Nat) : List UInt8 := ((ofL mode chip).take i).foldl (fun l x => l.set x v) xs
def chipB (mode : Int) (xs : List UInt8) (chip : Int) (v : UInt8) : List UInt8 := chipP mode xs chip v (ofL mode chip).length
theorem set_len (v : UInt8) : ∀ (L : List Nat) (xs : List UInt8), (L.foldl (fun l x => l.set x v) xs).length = xs.length
  | [], _ => rfl
  | x :: L, xs => by rw [List.foldl_cons, set_len v L, List.length_set]
theorem chipP_len (mode : Int) (xs : List UInt8) (chip : Int) (v : UInt8) (i : Nat) : (chipP mode xs chip v i).length = xs.length := set_len v _ _
theorem chipP_succ {mode : Int} {xs : List UInt8} {chip : Int} {v : UInt8} {i x : Nat} (h : (ofL mode chip)[i]? = some x) : chipP mode xs chip v (i + 1) = (chipP mode xs chip v i).set x v := by
  unfold chipP
  rw [List.take_add_one, h, List.foldl_append]
  rfl
theorem of_lt {mode chip : Int} {i x : Nat} (h : (ofL mode chip)[i]? = some x) : x < 72 := by
  unfold ofL at h
  split at h
  · rename_i hin
    have hi : i < wdN mode := by have := (List.getElem?_eq_some_iff.1 h).1; rw [List.length_map, List.length_range] at this; exact this
    rw [List.getElem?_map, List.getElem?_range hi] at h
    have h2 := (Option.some.inj h).symm
    obtain ⟨_, hf, _⟩ := mode_fit hi
    simp only at h2
    omega
  · simp at h

end Go.Proofs.Ytdglhppcfdpcaaa
namespace Go.Proofs.Ytdglhppcfdpcaaa
open Go.RowKit

def rowAt (W : World) (a : Addr) : Option (Array Value) := match a with
  | ⟨g, 0, none⟩ => (match W.heap[g]? with
    | some (.cells cs _ (0, 0)) => if cs.size = 72 then some cs else none
    | _ => none)
  | _ => none
def slowVar (t : TypeId) (a : Addr) : Sem Value := loadVar t a
theorem load_row_down (W : World) (a : Addr) : (loadVar 50 a).run Try.prog W = match rowAt W a with
    | some cs => .ok (.agg cs) W
    | none => (slowVar 50 a).run Try.prog W := by
  cases h : rowAt W a with
  | none => rfl
  | some cs =>
    unfold rowAt at h
    split at h
    · split at h
      · rename_i g _ cs' t hc
        split at h
        · rename_i hs
          cases h
          have hi : (Try.prog.info? 50).map (·.size) = some cs.size := by rw [hs]; exact infoRaw
          exact run_loadVar_row (P := Try.prog) W g t 50 cs (0, 0) _ hc Try.underlying50 rfl hi
        · cases h
      · cases h
    · cases h
theorem Blk.row {W : World} {g : Nat} {t : TypeId} {cs : Array Value} (h : Blk W g t cs) (hs : cs.size = 72) : rowAt W ⟨g, 0, none⟩ = some cs := by
  unfold rowAt
  simp only [show W.heap[g]? = some (.cells cs t (0, 0)) from h]
  exact if_pos hs
theorem load_var_step {P : Program} (t : TypeId) (W : World) (a : Addr) : (loadVar t a).run P W = ((isAgg t).run P W).andThen fun b w' => if b then ((sizeOf t).run P w').andThen (fun n w2 => ((loadCells a n).run P w2).andThen fun cs w3 => .ok (.agg cs) w3) else (load a).run P w' := by
  unfold loadVar
  rw [Sem.run_bind]
  congr 1
  funext b w'
  cases b <;> simp [Sem.run_bind]
end Go.Proofs.Ytdglhppcfdpcaaa
namespace Go.Proofs.Ytdglhppcfdpcaaa
open Go.RowKit
attribute [-go_sem] loadVar
attribute [local go_sem high] load_row_down
attribute [local go_sem low] load_var_step

/-- How much two are exposed to one another: over the first k words, and over all. -/
def exP (mode : Int) (xs ys : List UInt8) : Nat → Nat
  | 0 => 0
  | k + 1 => max (exP mode xs ys k) (ul mode (wordB mode xs (k : Int)) (wordB mode ys (k : Int)))
def expo (mode : Int) (xs ys : List UInt8) : Nat := exP mode xs ys (wdN mode)
theorem word_len {mode : Int} {xs : List UInt8} {k : Nat} (hl : xs.length = 72) (h : k < wdN mode) : (wordB mode xs (k : Int)).length = chN mode := by
  obtain ⟨_, hf, _⟩ := mode_fit h
  unfold wordB
  rw [if_pos (by omega), Int.toNat_natCast, List.length_take, List.length_drop]
  omega
theorem chN_le' (mode : Int) : chN mode ≤ 36 := by unfold chN; split <;> (try split) <;> omega
theorem wdN_le' (mode : Int) : wdN mode ≤ 8 := by unfold wdN; split <;> (try split) <;> omega
theorem ul_le {mode : Int} {xs ys : List UInt8} {n : Nat} (h1 : xs.length = n) (h2 : ys.length = n) : ul mode xs ys ≤ 64 * n := by
  unfold ul
  split
  · unfold dI
    have := dfB_le xs ys (min xs.length ys.length)
    omega
  · have := ulB_le xs ys xs.length
    omega
theorem ul_le36 {mode : Int} {xs ys : List UInt8} (h1 : xs.length ≤ 36) (h2 : ys.length ≤ 36) : ul mode xs ys ≤ 64 * 36 := by
  unfold ul
  split
  · unfold dI
    have := dfB_le xs ys (min xs.length ys.length)
    omega
  · have := ulB_le xs ys xs.length
    omega
theorem word_le (mode : Int) (xs : List UInt8) (k : Int) : (wordB mode xs k).length ≤ 36 := by
  have := chN_le' mode
  unfold wordB
  split
  · rw [List.length_take]; omega
  · exact Nat.zero_le _
theorem exP_le (mode : Int) (xs ys : List UInt8) (k : Nat) : exP mode xs ys k ≤ 64 * 36 := by
  induction k with
  | zero => exact Nat.zero_le _
  | succ k ih =>
    have := ul_le36 (mode := mode) (word_le mode xs (k : Int)) (word_le mode ys (k : Int))
    rw [exP]
    omega
def At2 (w : World) (b0 : Nat) (cv dv : Array Value) (W : World) : Prop := Blk W b0 50 cv ∧ Blk W (b0 + 1) 50 dv ∧ Below b0 w W ∧ b0 + 2 ≤ W.heap.size
theorem At2.below {w : World} {b0 : Nat} {cv dv : Array Value} {W W' : World} (h : At2 w b0 cv dv W) (hb : Below W.heap.size W W') : At2 w b0 cv dv W' := by
  obtain ⟨h0, h1, h2, h3⟩ := h
  exact ⟨h0.below hb (by omega), h1.below hb (by omega), h2.trans (hb.mono (by omega)), Nat.le_trans h3 hb.size⟩

end Go.Proofs.Ytdglhppcfdpcaaa
