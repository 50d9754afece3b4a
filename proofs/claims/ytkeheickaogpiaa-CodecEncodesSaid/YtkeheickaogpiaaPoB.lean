/- Several texts in one: Slc BytC PolyW PolyB PolyC PolyD PolyE PolyF PolyG PolyH. -/
import Derived.Test.YtkeheickaogpiaaGfA
import Derived.Ground.SlbCloneProg
import Derived.Shelf.Abstract
import Derived.Shelf.Bytes.SlClone
import Derived.Test.YtkeheickaogpiaaGfB
import Derived.Test.YtkeheickaogpiaaPoA
import Derived.Deep.QuietTactic
import Derived.BigQuiet
import Derived.Test.YtkeheickaogpiaaOwA
import Derived.Laws.AppendOwn
import Derived.Test.YtkeheickaogpiaaRfA
import Derived.TacticsInMore
import Derived.LoopNIn
import Derived.LoopIn
import Derived.Sort.CutIn
import Derived.Sort.BigQuietIn
import Derived.Great.BuildSlice
import Derived.OwnWalkIn
namespace Go.Proofs.Ytkeheickaogpiaa
open Go.RowKit

theorem addr_add0 (A : Option Addr) (s : Nat) : A.map (·.add (0 * s)) = A := by
  cases A with
  | none => rfl
  | some a =>
    obtain ⟨b, o, spot⟩ := a
    rw [Nat.zero_mul]
    simp [Addr.add]
theorem slice_low (A : Option Addr) (n c N : Nat) (h : N ≤ c) (w : World) :
    (Instr.slice 56 (.slice A n c) none (some (.int .i64 (N : Int))) none).run Try.prog w = .ok (.slice A N c) w := by
  rw [run_slice_h (P := Try.prog) (w := w) (t := 56) (a := A) (len := n) (cap := c) (by kernel_rfl) (kh := .i64) (h := (N : Int)) (by omega) (by omega)]
  simp only [sliced, Int.toNat_natCast, Nat.sub_zero, addr_add0, ite_self]
  kernel_rfl
theorem sliceAt_low (A : Option Addr) (n c N : Nat) (h : N ≤ c) (w : World) :
    (Instr.sliceAt 56 (.slice A n c) none (some (.int .i64 (N : Int))) none).run Try.prog w = .ok (.slice A N c) w :=
  (run_sliceAt_slice (P := Try.prog) (w := w) (t := 56) _ _ _ _ (by kernel_rfl)).trans (slice_low A n c N h w)
end Go.Proofs.Ytkeheickaogpiaa
namespace Go.Proofs.Ytkeheickaogpiaa
open Go.RowKit Go.Shelf Go.Lib

def bclone_ren : Go.Shelf.Ren := ⟨fun | 4 => 79 | n => n, fun | 22 => 56 | 4 => 4 | 5 => 5 | n => n, fun | n => n⟩
theorem bclone : Go.Proofs.SlLaysK.n4 Try.prog bclone_ren := {
  mixed := by kernel_rfl
  f4 := Try.func79.trans (congrArg some (by kernel_rfl))
  t4 := Try.underlying4
  a4 := Try.isAgg4
  z4 := Try.sizeOf4
  v4 := Try.zeroValue4
  t22 := Try.underlying56
  a22 := Try.isAgg56
  z22 := Try.sizeOf56
  v22 := Try.zeroValue56
  t5 := Try.underlying5
  i5 := by kernel_rfl }

end Go.Proofs.Ytkeheickaogpiaa
namespace Go.Proofs.Ytkeheickaogpiaa
open Go.RowKit

theorem u8_xorP (a b : UInt8) : bits .xor .u8 (a.toNat : Int) (b.toNat : Int) = ((a ^^^ b).toNat : Int) := by
  have ha := a.toNat_lt
  have hb := b.toNat_lt
  have h8 : ∀ c : Nat, c < 256 → (BitVec.ofInt 8 (c : Int)).toNat = c := by
    intro c hc
    rw [BitVec.ofInt_natCast, BitVec.toNat_ofNat]; exact Nat.mod_eq_of_lt (by omega)
  have hx : a.toNat ^^^ b.toNat < 2 ^ 8 := Nat.xor_lt_two_pow ha hb
  show IntKind.u8.wrap ((BitVec.ofInt 8 (a.toNat : Int) ^^^ BitVec.ofInt 8 (b.toNat : Int)).toNat : Int) = _
  rw [BitVec.toNat_xor, h8 _ ha, h8 _ hb, UInt8.toNat_xor]
  exact IntWalk.u8_in _ (by omega)
theorem u8_neP {x y : UInt8} (h : x ≠ y) : (x.toNat : Int) ≠ (y.toNat : Int) := fun e => h (UInt8.toNat_inj.1 (by omega))
theorem u8_ne0 {x : UInt8} (h : x ≠ 0) : (x.toNat : Int) ≠ 0 := fun e => h (UInt8.toNat_inj.1 (by rw [UInt8.toNat_zero]; omega))
theorem fmul_any (b : Nat) (x y : UInt8) (w : World) (hF : FieldAt w b) :
    Calls Try.prog 80 #[.pointer (some ⟨b, 0, none⟩), .int .u8 (x.toNat : Int), .int .u8 (y.toNat : Int)] w fun e w' => e = .returned (.int .u8 ((gm x y).toNat : Int)) ∧ ∃ k, w' = w.drewN k := by
  rw [gm_toNat]; exact mul_any b _ _ _ _ rfl rfl x.toNat_lt y.toNat_lt w hF
theorem rmul_any (x y : UInt8) (w : World) :
    Calls Try.prog 65 #[.int .u8 (x.toNat : Int), .int .u8 (y.toNat : Int)] w fun e w' => e = .returned (.int .u8 ((gm x y).toNat : Int)) ∧ w = w' := by
  rw [gm_toNat]; exact refMul_any _ _ _ _ rfl rfl x.toNat_lt y.toNat_lt w
theorem RdB.at (k : Nat) {w : World} {A : Option Addr} {xs : List UInt8} (h : RdB w A xs) (hk : k < xs.length) : ∃ b o, A = some ⟨b, o, none⟩ ∧ w.cell? ⟨b, o + k, none⟩ = some (.int .u8 ((co xs k).toNat : Int)) := by
  obtain ⟨b, o, h1, _, h2⟩ := h k hk
  exact ⟨b, o, h1, h2⟩

theorem degree_any (A : Option Addr) (n c : Nat) (xs : List UInt8) (hn : xs.length = n) (bn : n ≤ maxLen) (w : World) (hx : RdB w A xs) :
    Calls Try.prog 77 #[.slice A n c] w fun e w' => e = .returned (.int .i64 ((tlL xs : Int) - 1)) ∧ w = w' := by
  unfold maxLen at bn
  have HX := Lib.hid hx
  have HN := Lib.hid hn
  have HT := Lib.hid (show tl xs n = tlL xs by unfold tlL; rw [hn])
  have ht := tlL_le xs
  rw [hn] at ht
  obtain ⟨T, hT⟩ : ∃ T, tlL xs = T := ⟨_, rfl⟩
  rw [hT] at HT ht ⊢
  clear hx hn hT
  go_enter Try.func77, Try.ntmps77
  go_wp2
  go_loop [3] (fun d => ∃ k : Nat, k ≤ n ∧ d = .int .i64 ((k : Int) - 1) ∧ tl xs k = T) (fun d => (intOf d + 1).toNat)
  case atStart => exact ⟨n, Nat.le_refl _, rfl, HT.out⟩
  case round =>
    obtain ⟨k, hk, rfl, ht⟩ := hrel
    cases k with
    | zero =>
      obtain rfl : 0 = T := ht
      clear HT
      go_wp2
      go_ret
      exact ⟨rfl, rfl⟩
    | succ k =>
      rw [show ((k + 1 : Nat) : Int) - 1 = (k : Int) from by omega]
      obtain ⟨b, o, rfl, hc⟩ := RdB.at k HX.out (by have := HN.out; omega)
      have i0 : (0 : Int) ≤ (k : Int) := by omega
      have i1 : (k : Int) < (n : Int) := by omega
      by_cases h0 : co xs k = 0
      · have HR := Lib.hid (show tl xs k = T by rw [← ht, tl, if_pos h0])
        rw [h0, UInt8.toNat_zero] at hc
        clear h0 ht HT
        go_wp2
        go_round
        case rel => exact ⟨k, by omega, rfl, HR.out⟩
        case measure => simp [intOf]
      · have HR := Lib.hid (show k + 1 = T by rw [← ht, tl, if_neg h0])
        have q0 := u8_ne0 h0
        obtain ⟨x, hx⟩ : ∃ x, ((co xs k).toNat : Int) = x := ⟨_, rfl⟩
        rw [hx] at hc q0
        have q1 : (x == 0) = false := beq_eq_false_iff_ne.2 q0
        clear h0 ht HT hx q0
        go_wp2
        go_ret
        exact ⟨ret_int (by have := HR.out; omega), rfl⟩


end Go.Proofs.Ytkeheickaogpiaa
namespace Go.Proofs.Ytkeheickaogpiaa
open Go.RowKit Go.Shelf Go.Lib
set_option linter.unusedVariables false

abbrev vU (x : UInt8) : Value := .int .u8 (x.toNat : Int)
/-- The cells of a row of bytes, and what lies behind. -/
def rowV (xs : List UInt8) (rest : List Value) : Array Value := (xs.map vU ++ rest).toArray
theorem rowV_size (xs : List UInt8) (rest : List Value) : (rowV xs rest).size = xs.length + rest.length := by simp [rowV]
theorem rowV_get {xs : List UInt8} {rest : List Value} {i : Nat} (h : i < xs.length) : (rowV xs rest)[i]? = some (vU (co xs i)) := by
  unfold rowV
  rw [List.getElem?_toArray, List.getElem?_append_left (by simpa using h), List.getElem?_map, List.getElem?_eq_getElem h, co_of_lt h]
  rfl
theorem rowV_set {xs : List UInt8} {rest : List Value} {i : Nat} (h : i < xs.length) (v : UInt8) : (rowV xs rest).setIfInBounds i (vU v) = rowV (xs.set i v) rest := by
  unfold rowV
  rw [List.setIfInBounds_toArray, List.set_append_left _ _ (by simpa using h), List.map_set]
theorem zeroB_row (n : Nat) : zeroB n = rowV (List.replicate n 0) [] := by
  refine Array.ext_getElem? fun i => ?_
  by_cases h : i < n
  · rw [zeroB_get n i h, rowV_get (by simpa using h)]
    simp [co, h]
  · rw [Array.getElem?_eq_none (by rw [zeroB_size]; omega), Array.getElem?_eq_none (by rw [rowV_size]; simp; omega)]

/-- A slice of a call's own that reads as xs. -/
def Fr (B : Nat) (w : World) (v : Value) (xs : List UInt8) : Prop := w.ownsRow B 5 1 v xs.length (xs.map vU)
theorem Fr.open {B : Nat} {w : World} {v : Value} {xs : List UInt8} (h : Fr B w v xs) : ∃ A c, v = .slice A xs.length c ∧ xs.length ≤ c ∧ c ≤ maxLen ∧ RdB w A xs := by
  obtain ⟨_, h⟩ := h
  rcases h with ⟨rfl, h0⟩ | ⟨g, cap, cur, rfl, hg, hh, h1, h2, h3, h4⟩
  · obtain rfl : xs = [] := List.length_eq_zero_iff.1 h0
    exact ⟨none, 0, rfl, Nat.le_refl _, Nat.zero_le _, RdB.nil⟩
  · refine ⟨_, _, rfl, h1, h2, RdB.ofBlk hh fun k hk => ?_⟩
    have e1 := congrArg (fun l => l[k]?) h4
    rw [List.getElem?_take_of_lt (by omega)] at e1
    rw [← Array.getElem?_toList, e1, List.getElem?_map, List.getElem?_eq_getElem hk, List.getD_eq_getElem?_getD, List.getElem?_eq_getElem hk]
    rfl
/-- The block that it lies in. -/
theorem Fr.row {B : Nat} {w : World} {v : Value} {xs : List UInt8} (h : Fr B w v xs) (h0 : 0 < xs.length) : ∃ g rest, v = .slice (some ⟨g, 0, none⟩) xs.length (xs.length + rest.length) ∧ B ≤ g ∧ xs.length + rest.length ≤ maxLen ∧ Blk w g 5 (rowV xs rest) := by
  obtain ⟨_, h⟩ := h
  rcases h with ⟨rfl, h1⟩ | ⟨g, cap, cur, rfl, hg, hh, h1, h2, h3, h4⟩
  · omega
  · rw [Nat.mul_one] at h3 h4
    have e : cur = rowV xs (cur.toList.drop xs.length) := by
      unfold rowV
      rw [← h4, List.take_append_drop]
    have hl : (cur.toList.drop xs.length).length = cap - xs.length := by rw [List.length_drop, Array.length_toList, h3]
    refine ⟨g, cur.toList.drop xs.length, by rw [hl]; congr 1; omega, hg, by rw [hl]; omega, ?_⟩
    rw [← e]; exact hh
theorem Fr.ofBlk {B : Nat} {w : World} {g : Nat} {xs : List UInt8} {rest : List Value} (h : Blk w g 5 (rowV xs rest)) (hB : B ≤ g) (hm : xs.length + rest.length ≤ maxLen) : Fr B w (.slice (some ⟨g, 0, none⟩) xs.length (xs.length + rest.length)) xs := by
  refine ⟨by simp, .inr ⟨g, _, rowV xs rest, rfl, hB, h, by omega, hm, by rw [rowV_size, Nat.mul_one], ?_⟩⟩
  unfold rowV
  rw [Nat.mul_one, List.take_append_of_le_length (by simp), List.take_of_length_le (by simp)]
theorem RdB.row {w : World} {g : Nat} {xs : List UInt8} {rest : List Value} (h : Blk w g 5 (rowV xs rest)) : RdB w (some ⟨g, 0, none⟩) xs := RdB.ofBlk h fun k hk => rowV_get hk
theorem Fr.nil (B : Nat) (w : World) : Fr B w (.slice none 0 0) [] := ⟨rfl, .inl ⟨rfl, rfl⟩⟩
/-- It stays while all older blocks do. -/
theorem Fr.below {B : Nat} {w w' : World} {v : Value} {xs : List UInt8} (h : Fr B w v xs) (hb : Below w.heap.size w w') : Fr B w' v xs := by
  obtain ⟨h0, h⟩ := h
  refine ⟨h0, ?_⟩
  rcases h with h | ⟨g, cap, cur, hv, hg, hh, h1, h2, h3, h4⟩
  · exact .inl h
  · exact .inr ⟨g, cap, cur, hv, hg, (hb.block g (Array.getElem?_eq_some_iff.1 hh).1).trans hh, h1, h2, h3, h4⟩
theorem Fr.lower {B B' : Nat} {w : World} {v : Value} {xs : List UInt8} (h : Fr B w v xs) (hB : B' ≤ B) : Fr B' w v xs := by
  obtain ⟨h0, h⟩ := h
  refine ⟨h0, ?_⟩
  rcases h with h | ⟨g, cap, cur, hv, hg, hh, h1⟩
  · exact .inl h
  · exact .inr ⟨g, cap, cur, hv, by omega, hh, h1⟩
theorem Own.rd {B : Nat} {base W : World} {L : Objs} {A : Option Addr} {xs : List UInt8} (h : Own B base L W) (hB : base.heap.size = B) (hx : RdB base A xs) : RdB W A xs := by
  subst hB; exact hx.below (h.below (Nat.le_refl _))
theorem Own.field {B : Nat} {base W : World} {L : Objs} {b : Nat} (h : Own B base L W) (hB : base.heap.size = B) (hf : FieldAt base b) : FieldAt W b := by
  subst hB
  exact ((h.below (Nat.le_refl _)).block b (Array.getElem?_eq_some_iff.1 hf).1).trans hf

theorem cloneF_any (A : Option Addr) (n c : Nat) (xs : List UInt8) (hn : xs.length = n) (hbig : n ≤ 140737488355328) (w : World) (hx : RdB w A xs) :
    Calls Try.prog 79 #[.slice A n c] w fun e w' => ∃ v, e = .returned v ∧ Fr w.heap.size w' v xs ∧ Below w.heap.size w w' := by
  subst hn
  cases A with
  | none =>
    obtain rfl : xs = [] := by
      rcases Nat.eq_zero_or_pos xs.length with h | h
      · exact List.length_eq_zero_iff.1 h
      · obtain ⟨b, o, hA, _⟩ := hx 0 (by omega); cases hA
    refine (Any.bytes_Clone_nil bclone 0 c w).mono ?_
    rintro e w' ⟨rfl, rfl⟩
    exact ⟨_, rfl, Fr.nil _ _, Below.refl _ _⟩
  | some a =>
    refine (Any.bytes_Clone_at bclone a xs.length c (xs.map fun x => (x.toNat : Int)) w (by rw [List.length_map]) hbig ?_).mono ?_
    · intro i hi
      obtain ⟨b, o, hA, _, hc⟩ := hx i (by omega)
      cases hA
      have hadd : (⟨b, o, none⟩ : Addr).add i = ⟨b, o + i, none⟩ := by
        unfold Addr.add
        split
        · rename_i h0; subst h0; rfl
        · rfl
      rw [hadd, hc, List.getD_eq_getElem?_getD, List.getD_eq_getElem?_getD, List.getElem?_map, List.getElem?_eq_getElem (by omega)]
      rfl
    · rintro e w' ⟨v', rfl, hv, _, hb⟩
      refine ⟨v', rfl, ?_, hb⟩
      unfold Fr
      rw [show xs.map vU = (xs.map fun x => (x.toNat : Int)).map (Value.int .u8) from by rw [List.map_map]; rfl]
      exact hv

theorem trim_any (A : Option Addr) (n c : Nat) (xs : List UInt8) (hn : xs.length = n) (hc : n ≤ c) (bn : n ≤ 100000) (w : World) (hx : RdB w A xs) :
    Calls Try.prog 81 #[.slice A n c] w fun e w' => ∃ v, e = .returned v ∧ Fr w.heap.size w' v (trimL xs) ∧ Below w.heap.size w w' := by
  have HX := Lib.hid hx
  have HD := Lib.hid (degree_any A n c xs hn (by unfold maxLen; omega) w hx)
  have ht := tlL_le xs
  have HC := Lib.hid (cloneF_any A (tlL xs) c (trimL xs) (trimL_len xs) (by omega) w (hx.take _))
  have hsl := sliceAt_low A n c (tlL xs) (by omega)
  obtain ⟨T, hT⟩ : ∃ T, tlL xs = T := ⟨_, rfl⟩
  rw [hT] at HD HC hsl ht
  have i0 : (0 : Int) ≤ (T : Int) := by omega
  have i1 : (T : Int) < 9223372036854775808 := by omega
  clear hx hT
  go_enter Try.func81, Try.ntmps81
  go_wp2_with fail
  refine (HD.out).mono ?_
  rintro e w2 ⟨rfl, rfl⟩
  go_wp2_with fail
  refine HC.out.mono ?_
  rintro e w2 ⟨v, rfl, h1, h2⟩
  go_wp2
  go_ret
  exact ⟨_, rfl, h1, h2⟩
end Go.Proofs.Ytkeheickaogpiaa
namespace Go.Proofs.Ytkeheickaogpiaa
open Go.RowKit Go.Shelf
set_option linter.unusedVariables false
attribute [local go_sem] Oper.semAt_some

section
variable {F : Fence} {n : Nat} {P : Program} {ops : Array Oper} {Q : Exit → Act → World → Prop} {a : Act} {W W' : World} {rest : List Oper} {o : Oper} {B G : Nat} {base : World} {L : Objs}
/-- A new slice. -/
theorem own_make [FreeF F] (T E : TypeId) (x : Operand) (ho : o.op = .makeSlice T x x) (hw : Region.wanted o (yielded ops a.tmps) = true) (m : Nat) (hx : a.eval x = .int .i64 (m : Int)) (cs : Array Value)
    (hr : ∀ w : World, (Instr.makeSlice T (.int .i64 (m : Int)) (.int .i64 (m : Int))).run P w = .ok (.slice (some ⟨w.heap.size, 0, none⟩) m m) (w.alloc (.cells cs E)))
    (OW : Hid (Own B base L W)) (OZ : Hid (W.heap.size = G ∧ B ≤ G)) (h : ∀ W2 : World, Hid (Own B base (L ++ [(G, .cells cs E (0, 0))]) W2) → Hid (W2.heap.size = G + 1 ∧ B ≤ G + 1) → wpListIn F n P ops Q rest (a.put o.dst (.slice (some ⟨G, 0, none⟩) m m)) W2) : wpListIn F n P ops Q (o :: rest) a W := by
  obtain ⟨z1, z2⟩ := OZ
  subst z1
  refine wpListIn_val hw (by unfold noDefer; rw [ho]) (.slice (some ⟨W.heap.size, 0, none⟩) m m) (W' := W.alloc (.cells cs E)) (by unfold execOp; simp only [ho, hx, Sem.run_bind, hr, Result.andThen_ok, Sem.run_pure]) ?_
  exact h _ (OW.alloc z2 _) ⟨by simp, by omega⟩
end
theorem makeRow (n : Nat) (hn : n ≤ 281474976710656) (w : World) : (Instr.makeSlice 56 (.int .i64 (n : Int)) (.int .i64 (n : Int))).run Try.prog w = .ok (.slice (some ⟨w.heap.size, 0, none⟩) n n) (w.alloc (.cells (rowV (List.replicate n 0) []) 5)) := by
  rw [← zeroB_row]; exact make_bytes n hn w
theorem ofF_zero (n : Nat) (f : Nat → UInt8) (h : ∀ i, i < n → f i = 0) : ofF n f = List.replicate n 0 := by
  refine list_ext (by rw [ofF_len, List.length_replicate]) fun i hi => ?_
  rw [ofF_len] at hi
  rw [co_ofF, if_pos hi, h i hi]
  simp [co, hi]
theorem ofF_congr {n : Nat} {f g : Nat → UInt8} (h : ∀ i, i < n → f i = g i) : ofF n f = ofF n g := by
  unfold ofF
  exact List.map_congr_left fun i hi => h i (List.mem_range.1 hi)
theorem co_set {xs : List UInt8} {k i : Nat} {v : UInt8} (hk : k < xs.length) : co (xs.set k v) i = if i = k then v else co xs i := by
  unfold co
  rw [List.getD_eq_getElem?_getD, List.getD_eq_getElem?_getD, List.getElem?_set]
  by_cases e : i = k
  · subst e; simp [hk]
  · rw [if_neg (Ne.symm e), if_neg e]


end Go.Proofs.Ytkeheickaogpiaa
namespace Go.Proofs.Ytkeheickaogpiaa
open Go.RowKit Go.Shelf
set_option linter.unusedVariables false
attribute [local go_sem] Oper.semAt_some

theorem ofF_co (p : List UInt8) : ofF p.length (co p) = p := list_ext (ofF_len _ _) fun i hi => by rw [ofF_len] at hi; rw [co_ofF, if_pos hi]
end Go.Proofs.Ytkeheickaogpiaa
namespace Go.Proofs.Ytkeheickaogpiaa
open Go.RowKit Go.Shelf
set_option linter.unusedVariables false
attribute [local go_sem] Oper.semAt_some

/-- Behind i rounds. -/
def muF (p q : List UInt8) (i t : Nat) : UInt8 := xs i fun a => if a ≤ t then gm (co p a) (co q (t - a)) else 0
/-- And behind j steps of the next one. -/
def muIn (p q : List UInt8) (i j t : Nat) : UInt8 := muF p q i t ^^^ (if i ≤ t ∧ t < i + j then gm (co p i) (co q (t - i)) else 0)
theorem muIn_zero (p q : List UInt8) (i t : Nat) : muIn p q i 0 t = muF p q i t := by
  unfold muIn; rw [if_neg (by omega), UInt8.xor_zero]
theorem muIn_all {p q : List UInt8} (i t : Nat) : muIn p q i q.length t = muF p q (i + 1) t := by
  unfold muIn muF
  rw [xs_succ]
  congr 1
  by_cases h : i ≤ t
  · rw [if_pos h]
    by_cases h2 : t < i + q.length
    · rw [if_pos ⟨h, h2⟩]
    · rw [if_neg (by omega), co_ge (p := q) (by omega), gm_zero]
  · rw [if_neg (by omega), if_neg h]
theorem muF_all {p q : List UInt8} (t : Nat) : muF p q p.length t = conv (co p) (co q) t := by
  unfold muF conv
  have h0 : ∀ a, (t + 1 ≤ a ∨ p.length ≤ a) → (if a ≤ t then gm (co p a) (co q (t - a)) else 0) = 0 := fun a ha => by
    by_cases h : a ≤ t
    · rw [if_pos h, co_ge (p := p) (by omega), zero_gm]
    · rw [if_neg h]
  have e1 : xs (t + 1) (fun a => gm (co p a) (co q (t - a))) = xs (t + 1) fun a => if a ≤ t then gm (co p a) (co q (t - a)) else 0 := xs_congr fun i hi => by rw [if_pos (by omega)]
  rw [e1]
  rcases Nat.le_total (t + 1) p.length with h | h
  · exact xs_le h _ fun i hi => h0 i (.inl hi)
  · exact (xs_le h _ fun i hi => h0 i (.inr hi)).symm
def muTo (p q : List UInt8) (i j : Nat) : List UInt8 := ofF (p.length + q.length) (muIn p q i j)
theorem muTo_len (p q : List UInt8) (i j : Nat) : (muTo p q i j).length = p.length + q.length := ofF_len _ _
theorem muTo_start (p q : List UInt8) : muTo p q 0 0 = List.replicate (p.length + q.length) 0 := ofF_zero _ _ fun i _ => by rw [muIn_zero]; rfl
theorem muTo_next (p q : List UInt8) (i : Nat) : muTo p q i q.length = muTo p q (i + 1) 0 := ofF_congr fun t _ => by rw [muIn_all, muIn_zero]
theorem muTo_co {p q : List UInt8} {i j : Nat} (h : i + j < p.length + q.length) : co (muTo p q i j) (i + j) = muF p q i (i + j) := by
  unfold muTo
  rw [co_ofF, if_pos h]
  unfold muIn
  rw [if_neg (by omega), UInt8.xor_zero]
theorem muTo_set {p q : List UInt8} {i j : Nat} : (muTo p q i j).set (i + j) (muF p q i (i + j) ^^^ gm (co p i) (co q j)) = muTo p q i (j + 1) :=
  ofF_succ_set _ _ _ _ _ fun t _ => by
    unfold muIn
    by_cases e : t = i + j
    · subst e; rw [if_pos (by omega), if_pos rfl, Nat.add_sub_cancel_left]
    · rw [if_neg e]
      by_cases h : i ≤ t ∧ t < i + j
      · rw [if_pos (by omega), if_pos h]
      · rw [if_neg (by omega), if_neg h]
theorem muTo_all (p q : List UInt8) : trimL (muTo (trimL p) (trimL q) (tlL p) 0) = mulL p q := by
  unfold mulL muTo
  rw [trimL_len, trimL_len]
  refine trimL_congr fun t => ?_
  rw [co_ofF, co_ofF]
  split
  · have h := muF_all (p := trimL p) (q := trimL q) t
    rw [trimL_len] at h
    rw [muIn_zero, h]
    exact conv_congr (fun i _ => co_trimL p i) (fun i _ => co_trimL q i)
  · rfl

set_option maxRecDepth 100000 in
theorem pmul_any (b : Nat) (A B : Option Addr) (n m c d : Nat) (p q : List UInt8) (hn : p.length = n) (hm : q.length = m) (hc : n ≤ c) (hd : m ≤ d) (bn : n ≤ 50000) (bm : m ≤ 50000) (w : World) (hF : FieldAt w b) (hx : RdB w A p) (hy : RdB w B q) :
    Calls Try.prog 91 #[.pointer (some ⟨b, 0, none⟩), .slice A n c, .slice B m d] w fun e w' => ∃ v, e = .returned v ∧ Fr w.heap.size w' v (mulL p q) ∧ Below w.heap.size w w' := by
  have HT1 := Lib.hid (trim_any A n c p hn hc (by omega) w hx)
  have HT2 := Lib.hid (fun W h => trim_any B m d q hm hd (by omega) W h)
  have HF := Lib.hid hF
  have HY := Lib.hid hy
  have l1 := tlL_le p
  have l2 := tlL_le q
  have HLN := Lib.hid (And.intro (trimL_len p) (trimL_len q))
  have HRES := Lib.hid (muTo_all p q)
  rw [hn] at l1
  rw [hm] at l2
  clear hx hy hF
  refine (callsIn_wide (n := 6)).1 ?_
  refine callsIn_of_wp_marks Try.func91 rfl trivial ?_ rfl
  simp only [Try.ntmps91, List.size_toArray, List.length_cons, List.length_nil, Nat.reduceAdd, Nat.reduceSub, Array.replicate_succ, Array.replicate_zero, List.push_toArray, List.append_toArray, List.nil_append, List.cons_append]
  gi_wp2_with fail
  refine ⟨trivial, ?_⟩
  refine (callsIn_wide.2 HT1.out).mono ?_
  rintro e W1 ⟨v1, rfl, hv1, hb1⟩
  gi_wp2_with fail
  refine ⟨trivial, ?_⟩
  refine (callsIn_wide.2 (HT2.out W1 (HY.out.below hb1))).mono ?_
  rintro e W2 ⟨v2, rfl, hv2, hb2⟩
  obtain ⟨A1, c1, rfl, hc1, _, hr1⟩ := hv1.open
  obtain ⟨A2, c2, rfl, hc2, _, hr2⟩ := hv2.open
  have HX := Lib.hid (And.intro (hr1.below hb2) hr2)
  have HBW := Lib.hid (hb1.trans (hb2.mono hb1.size))
  have HF2 := Lib.hid (show FieldAt W2 b from ((HBW.out).block b (Array.getElem?_eq_some_iff.1 HF.out).1).trans HF.out)
  rw [HLN.out.1, HLN.out.2]
  have HPL := Lib.hid (And.intro HLN.out.1 HLN.out.2)
  obtain ⟨P, hP⟩ : ∃ P, trimL p = P := ⟨_, rfl⟩
  obtain ⟨Q, hQ⟩ : ∃ Q, trimL q = Q := ⟨_, rfl⟩
  obtain ⟨n1, hn1⟩ : ∃ n1, tlL p = n1 := ⟨_, rfl⟩
  obtain ⟨n2, hn2⟩ : ∃ n2, tlL q = n2 := ⟨_, rfl⟩
  rw [hP, hQ, hn1] at HRES
  rw [hP, hQ] at HX
  rw [hP, hQ, hn1, hn2] at HPL
  rw [hn1] at l1
  rw [hn2] at l2
  rw [hn1, hn2]
  clear hv1 hv2 hr1 hr2 hb1 hb2 hc1 hc2 hP hQ hn1 hn2 HLN HT1 HT2 HF HY
  obtain ⟨N, hN⟩ : ∃ N, n1 + n2 = N := ⟨_, rfl⟩
  have hwN : IntKind.i64.wrap ((n1 : Int) + (n2 : Int)) = (N : Int) := by rw [show (n1 : Int) + (n2 : Int) = (N : Int) from by omega]; exact IntWalk.i64_in _ (by omega)
  obtain ⟨b0, hb0⟩ : ∃ b0, W2.heap.size = b0 := ⟨_, rfl⟩
  have HB0 := Lib.hid hb0
  have OW := Lib.hid (Own.start b0 W2)
  have OZ := Lib.hid (And.intro hb0 (Nat.le_refl b0))
  clear hb0
  gi_wp2_with (refine own_make 56 5 (.tmp 20) rfl rfl N rfl _ (makeRow N (by omega)) OW OZ ?_; clear OW OZ; intro W OW OZ)
  gi_loopw [24] (fun i wr => ∃ k : Nat, k ≤ n1 ∧ i = .int .i64 k ∧ Own b0 W2 [cellsO b0 5 (rowV (muTo P Q k 0) [])] wr) (fun i _ => n1 - (intOf i).toNat)
  case atStart => exact ⟨0, Nat.zero_le _, rfl, by rw [muTo_start, HPL.out.1, HPL.out.2, hN]; exact OW.out⟩
  case round =>
    obtain ⟨k, hk, rfl, hO⟩ := hrel
    clear OW OZ
    have OW := Lib.hid hO
    obtain ⟨G, OZ⟩ := own_size OW HB0
    clear hO
    by_cases h1 : k < n1
    · have i0 : (0 : Int) ≤ (k : Int) := by omega
      have i1 : (k : Int) < (n1 : Int) := by omega
      obtain ⟨ba, oa, rfl, hca⟩ := RdB.at k (OW.out.rd HB0.out HX.out.1) (by have := HPL.out.1; omega)
      obtain ⟨x, hx⟩ : ∃ x, co P k = x := ⟨_, rfl⟩
      rw [hx] at hca
      have HXX := Lib.hid hx
      clear hx
      gi_wp2
      gi_loopw [31] (fun i wr => ∃ j : Nat, j ≤ n2 ∧ i = .int .i64 j ∧ Own b0 W2 [cellsO b0 5 (rowV (muTo P Q k j) [])] wr) (fun i _ => n2 - (intOf i).toNat)
      case atStart => exact ⟨0, Nat.zero_le _, rfl, OW.out⟩
      case round =>
        obtain ⟨j, hj, rfl, hO⟩ := hrel
        clear OW OZ hca
        have OW := Lib.hid hO
        obtain ⟨G, OZ⟩ := own_size OW HB0
        clear hO
        by_cases h2 : j < n2
        · have i2 : (0 : Int) ≤ (j : Int) := by omega
          have i3 : (j : Int) < (n2 : Int) := by omega
          obtain ⟨bb, ob, rfl, hcb⟩ := RdB.at j (OW.out.rd HB0.out HX.out.2) (by have := HPL.out.2; omega)
          have hlt : k + j < P.length + Q.length := by rw [HPL.out.1, HPL.out.2]; omega
          have hco := (OW.out.blk (k := 0) rfl).cell (k + j)
          rw [rowV_get (by rw [muTo_len]; exact hlt), muTo_co hlt] at hco
          have HS := Lib.hid (show (rowV (muTo P Q k j) []).setIfInBounds (k + j) (vU (muF P Q k (k + j) ^^^ gm (co P k) (co Q j))) = rowV (muTo P Q k (j + 1)) [] by rw [rowV_set (by rw [muTo_len]; exact hlt), muTo_set])
          have HL := Lib.hid (show k + j < (rowV (muTo P Q k j) []).size by rw [rowV_size, muTo_len]; exact hlt)
          obtain ⟨t, ht⟩ : ∃ t, k + j = t := ⟨_, rfl⟩
          have hwt : IntKind.i64.wrap ((k : Int) + (j : Int)) = (t : Int) := by rw [show (k : Int) + (j : Int) = (t : Int) from by omega]; exact IntWalk.i64_in _ (by omega)
          have i4 : (0 : Int) ≤ (t : Int) := by omega
          have i5 : (t : Int) < (N : Int) := by rw [HPL.out.1, HPL.out.2] at hlt; omega
          rw [ht] at hco HS HL
          rw [HXX.out] at HS
          obtain ⟨y, hy⟩ : ∃ y, co Q j = y := ⟨_, rfl⟩
          rw [hy] at hcb HS
          obtain ⟨s, hs⟩ : ∃ s, muF P Q k t = s := ⟨_, rfl⟩
          rw [hs] at hco HS
          have HM := Lib.hid (fun z => fmul_any b x y (wr.drewN z) ((OW.out.drewN z).field HB0.out HF2.out))
          have hxor := u8_xorP s (gm x y)
          obtain ⟨g, hg⟩ : ∃ g, gm x y = g := ⟨_, rfl⟩
          rw [hg] at HM HS hxor
          obtain ⟨u, hu⟩ : ∃ u, s ^^^ g = u := ⟨_, rfl⟩
          rw [hu] at HS hxor
          have FW : Fence.wide.fn 80 := trivial
          clear hy hs hg hu ht hlt
          gi_upto_region 9 with fail
          refine wpIn_region_tail 12 (by kernel_rfl) (by kernel_rfl) ?_
          simp only [List.take_succ_cons, List.take_zero, List.drop_succ_cons, List.drop_zero]
          repeat (gi_big_quiet_step ((gi_at_call 80; exact CallsIn.quiet_of (callsIn_wide.2 (HM.out _)))))
          refine wpQuietIn_nil ?_
          intro _ hw'
          obtain ⟨nq, hw''⟩ := hw'
          subst hw''
          have OW2 := Lib.hid (OW.out.drewN nq)
          clear OW OZ HM hco hcb
          have OW := OW2
          obtain ⟨G2, OZ⟩ := own_size OW HB0
          clear OW2
          gi_wp2_with (refine own_store 0 5 (.tmp 47) (.tmp 46) rfl rfl rfl rfl (vU u) rfl _ HS.out HL.out rfl szU8 _ rfl OW OZ ?_; clear OW OZ; intro W OW OZ)
          go_roundw
          case rel => exact ⟨j + 1, by omega, by go_num, OW.out⟩
          case measure => simp [intOf]; omega
        · obtain rfl : j = n2 := by omega
          have hnx := muTo_next P Q k
          rw [HPL.out.2] at hnx
          rw [hnx] at OW
          clear hnx
          gi_wp2
          go_roundw
          case rel => exact ⟨k + 1, by omega, by go_num, OW.out⟩
          case measure => simp [intOf]; omega
    · obtain rfl : k = n1 := by omega
      have h2 := OW.out.blk (k := 0) rfl
      have HT := Lib.hid (trim_any (some ⟨b0, 0, none⟩) N N (muTo P Q k 0) (by rw [muTo_len, HPL.out.1, HPL.out.2]; exact hN) (Nat.le_refl _) (by omega) wr (RdB.row h2))
      rw [HRES.out] at HT
      have HB := Lib.hid (HBW.out.trans ((OW.out.done HB0).mono HBW.out.size))
      clear h2
      gi_wp2_with fail
      refine ⟨trivial, ?_⟩
      refine (callsIn_wide.2 HT.out).mono ?_
      rintro e w2 ⟨v, rfl, h1, h2⟩
      gi_wp2
      exact ⟨v, by simp [results, Try.results91, go_sem], v, rfl, h1.lower HB.out.size, HB.out.trans (h2.mono HB.out.size)⟩
end Go.Proofs.Ytkeheickaogpiaa
namespace Go.Proofs.Ytkeheickaogpiaa
open Go.RowKit Go.Shelf
set_option linter.unusedVariables false
attribute [local go_sem] Oper.semAt_some

set_option maxRecDepth 100000 in
theorem roots_any (b : Nat) (A : Option Addr) (n c : Nat) (rs : List UInt8) (hn : rs.length = n) (bn : n ≤ 40000) (w : World) (hF : FieldAt w b) (hx : RdB w A rs) :
    Calls Try.prog 73 #[.pointer (some ⟨b, 0, none⟩), .slice A n c] w fun e w' => ∃ v, e = .returned v ∧ Fr w.heap.size w' v (rootsL rs) ∧ Below w.heap.size w w' := by
  have HX := Lib.hid hx
  have HF := Lib.hid hF
  have HN := Lib.hid hn
  have HR := Lib.hid (show rtTo rs n = rootsL rs by unfold rootsL; rw [hn])
  clear hx hF hn
  refine (callsIn_wide (n := 6)).1 ?_
  refine callsIn_of_wp_marks Try.func73 rfl trivial ?_ rfl
  simp only [Try.ntmps73, List.size_toArray, List.length_cons, List.length_nil, Nat.reduceAdd, Nat.reduceSub, Array.replicate_succ, Array.replicate_zero, List.push_toArray, List.append_toArray, List.nil_append, List.cons_append]
  gi_wp2
  gi_loopw [5, 11] (fun v i wr => ∃ k : Nat, k ≤ n ∧ i = .int .i64 k ∧ Fr w.heap.size wr v (rtTo rs k) ∧ Below w.heap.size w wr) (fun _ i _ => n - (intOf i).toNat)
  case atStart =>
    refine ⟨0, Nat.zero_le _, rfl, ?_, (Below.refl _ w).alloc (Nat.le_refl _) _⟩
    exact Fr.ofBlk (xs := [1]) (rest := []) (Blk.new w _ _) (Nat.le_refl _) (by show 1 ≤ maxLen; unfold maxLen; omega)
  case round =>
    obtain ⟨k, hk, rfl, hfr, hbw⟩ := hrel
    have HB := Lib.hid hbw
    by_cases h1 : k < n
    · have i0 : (0 : Int) ≤ (k : Int) := by omega
      have i1 : (k : Int) < (n : Int) := by omega
      obtain ⟨A1, c1, rfl, hc1, hc2, hr⟩ := hfr.open
      obtain ⟨bb, ob, rfl, hcb⟩ := RdB.at k (HX.out.below hbw) (by have := HN.out; omega)
      have HLN := Lib.hid (rtTo_len rs k)
      have HRR := Lib.hid hr
      obtain ⟨m, hm⟩ : ∃ m, (rtTo rs k).length = m := ⟨_, rfl⟩
      rw [hm] at HLN hc1
      have HM := Lib.hid hm
      have HC1 := Lib.hid hc1
      rw [hm]
      have HST := Lib.hid (show mulL (rtTo rs k) [co rs k, 1] = rtTo rs (k + 1) from rfl)
      obtain ⟨x, hx⟩ : ∃ x, co rs k = x := ⟨_, rfl⟩
      rw [hx] at hcb HST
      clear hx hfr hbw hr hm hc1 hc2
      gi_wp2_with fail
      refine ⟨trivial, ?_⟩
      have hbw2 : Below wr.heap.size wr (wr.alloc (.cells (rowV [x, 1] []) 5)) := (Below.refl _ wr).alloc (Nat.le_refl _) _
      have hFW : FieldAt (wr.alloc (.cells (rowV [x, 1] []) 5)) b := by
        have e1 := HB.out.block b (Array.getElem?_eq_some_iff.1 HF.out).1
        have hlt := (Array.getElem?_eq_some_iff.1 (e1.trans HF.out)).1
        exact (hbw2.block b hlt).trans (e1.trans HF.out)
      refine (callsIn_wide.2 (pmul_any b A1 (some ⟨wr.heap.size, 0, none⟩) m 2 c1 2 (rtTo rs k) [x, 1] HM.out rfl HC1.out (Nat.le_refl _) (by have := HLN.out; omega) (by omega) _ hFW (HRR.out.below hbw2) (RdB.row (rest := []) (Blk.new wr _ _)))).mono ?_
      rintro e w2 ⟨v2, rfl, hv2, hb3⟩
      rw [HST.out] at hv2
      have HB3 := Lib.hid (HB.out.trans (((hbw2).trans (hb3.mono hbw2.size)).mono HB.out.size))
      have HV := Lib.hid (hv2.lower (B' := w.heap.size) (Nat.le_trans HB.out.size hbw2.size))
      clear hbw2 hFW hv2 hb3
      gi_wp2
      go_roundw
      case rel => exact ⟨k + 1, by omega, by go_num, HV.out, HB3.out⟩
      case measure => simp [intOf]; omega
    · obtain rfl : k = n := by omega
      rw [HR.out] at hfr
      have HFR := Lib.hid hfr
      clear hfr hbw
      gi_wp2
      exact ⟨_, by simp [results, Try.results73, go_sem], _, rfl, HFR.out, HB.out⟩

/-- The inverse of an element. -/
def gi (x : UInt8) : UInt8 := UInt8.ofNat (gdivN 1 x.toNat)
theorem gi_toNat (x : UInt8) : (gi x).toNat = gdivN 1 x.toNat := by unfold gi; rw [UInt8.toNat_ofNat']; exact Nat.mod_eq_of_lt (gdivN_lt _ _)
theorem gm_gi {x : UInt8} (h : x ≠ 0) : gm x (gi x) = 1 := by
  rw [gm_comm]
  apply UInt8.toNat_inj.1
  rw [gm_toNat, gi_toNat, gdivN_mul _ _ (by omega) x.toNat_lt (fun e => h (UInt8.toNat_inj.1 e))]
  rfl
theorem finv_any (b : Nat) (y : UInt8) (h : y ≠ 0) (w : World) (hF : FieldAt w b) :
    Calls Try.prog 78 #[.pointer (some ⟨b, 0, none⟩), .int .u8 (y.toNat : Int)] w fun e w' => e = .returned (.tuple #[.int .u8 ((gi y).toNat : Int), .int .i64 0]) ∧ ∃ k, w' = w.drewN k := by
  rw [gi_toNat]
  exact inv_any b _ y.toNat rfl y.toNat_lt (fun e => h (UInt8.toNat_inj.1 e)) w hF
end Go.Proofs.Ytkeheickaogpiaa
namespace Go.Proofs.Ytkeheickaogpiaa
open Go.RowKit Go.Shelf
set_option linter.unusedVariables false
attribute [local go_sem] Oper.semAt_some

/-- Within a round: j places of the divisor are taken, times a, from the place z on. -/
def mdIn (q : List UInt8) (a : UInt8) (o : List UInt8) (z j : Nat) : List UInt8 := ofF o.length fun x => if z ≤ x ∧ x < z + j then co o x ^^^ gm a (co q (x - z)) else co o x
theorem mdIn_len (q : List UInt8) (a : UInt8) (o : List UInt8) (z j : Nat) : (mdIn q a o z j).length = o.length := ofF_len _ _
theorem mdIn_zero (q : List UInt8) (a : UInt8) (o : List UInt8) (z : Nat) : mdIn q a o z 0 = o := by
  unfold mdIn
  rw [ofF_congr (g := co o) fun i _ => if_neg (by omega)]
  exact ofF_co o
theorem mdIn_co {q : List UInt8} {a : UInt8} {o : List UInt8} {z j : Nat} (h : z + j < o.length) : co (mdIn q a o z j) (z + j) = co o (z + j) := by
  unfold mdIn
  rw [co_ofF, if_pos h, if_neg (by omega)]
theorem mdIn_set {q : List UInt8} {a : UInt8} {o : List UInt8} {z j : Nat} : (mdIn q a o z j).set (z + j) (co o (z + j) ^^^ gm a (co q j)) = mdIn q a o z (j + 1) :=
  ofF_succ_set _ _ _ _ _ fun t _ => by
    by_cases e : t = z + j
    · subst e; rw [if_pos (by omega), if_pos rfl, Nat.add_sub_cancel_left]
    · rw [if_neg e]
      by_cases h : z ≤ t ∧ t < z + j
      · rw [if_pos (by omega), if_pos h]
      · rw [if_neg (by omega), if_neg h]
theorem mdIn_all {q : List UInt8} {t : UInt8} {o : List UInt8} {d i : Nat} (h : d ≤ i) : mdIn q (gm (co o i) t) o (i - d) (d + 1) = mdStep q d t o i := by
  unfold mdIn mdStep
  refine ofF_congr fun x _ => ?_
  by_cases h1 : i - d ≤ x ∧ x < i - d + (d + 1)
  · rw [if_pos h1, if_pos (by omega)]
  · rw [if_neg h1, if_neg (by omega)]

set_option maxRecDepth 100000 in
set_option maxHeartbeats 1000000 in
theorem pmod_any (b : Nat) (A B : Option Addr) (n m c e : Nat) (p q : List UInt8) (hn : p.length = n) (hm : q.length = m) (bn : n ≤ 50000) (bm : m ≤ 50000) (h0 : 0 < tlL q) (w : World) (hF : FieldAt w b) (hx : RdB w A p) (hy : RdB w B q) :
    Calls Try.prog 57 #[.pointer (some ⟨b, 0, none⟩), .slice A n c, .slice B m e] w fun r w' => ∃ v, r = .returned (.tuple #[v, .int .i64 0]) ∧ Fr w.heap.size w' v (modL p q (gi (co q (tlL q - 1)))) ∧ Below w.heap.size w w' := by
  obtain ⟨d, hd⟩ : ∃ d, tlL q = d + 1 := ⟨tlL q - 1, by omega⟩
  have HD := Lib.hid (degree_any B m e q hm (by unfold maxLen; omega) w hy)
  have hdm := tlL_le q
  have hq0 := tlL_top q hd
  have HML := Lib.hid (show trimL (mdTo p q d (gi (co q d)) (n - d)) = modL p q (gi (co q (tlL q - 1))) by unfold modL; rw [hd, hn]; rfl)
  rw [hd, show ((d + 1 : Nat) : Int) - 1 = (d : Int) from by omega] at HD
  rw [hd, hm] at hdm
  have i9 : (0 : Int) ≤ (d : Int) := by omega
  have i8 : (d : Int) < (m : Int) := by omega
  obtain ⟨b1, o1, rfl, hcq⟩ := RdB.at d hy (by omega)
  have HI := Lib.hid (fun z => finv_any b (co q d) hq0 (w.drewN z) (hF.drewN z))
  obtain ⟨R, hR⟩ : ∃ R, modL p q (gi (co q (tlL q - 1))) = R := ⟨_, rfl⟩
  rw [hR] at HML ⊢
  obtain ⟨t, ht⟩ : ∃ t, gi (co q d) = t := ⟨_, rfl⟩
  rw [ht] at HML HI
  obtain ⟨y0, hy0⟩ : ∃ y0, co q d = y0 := ⟨_, rfl⟩
  rw [hy0] at hcq HI
  have HX := Lib.hid (And.intro hx hy)
  have HN := Lib.hid (And.intro hn hm)
  have HF := Lib.hid hF
  clear hx hy hF hn hm hR ht hy0 hq0 h0 hd
  refine (callsIn_wide (n := 6)).1 ?_
  refine callsIn_of_wp_marks Try.func57 rfl trivial ?_ rfl
  simp only [Try.ntmps57, List.size_toArray, List.length_cons, List.length_nil, Nat.reduceAdd, Nat.reduceSub, Array.replicate_succ, Array.replicate_zero, List.push_toArray, List.append_toArray, List.nil_append, List.cons_append]
  gi_wp2_with fail
  refine ⟨trivial, ?_⟩
  refine (callsIn_wide.2 HD.out).mono ?_
  rintro r W1 ⟨rfl, rfl⟩
  gi_wp2_with fail
  refine ⟨trivial, ?_⟩
  refine (callsIn_wide.2 (HI.out 0)).mono ?_
  rintro r W1 ⟨rfl, z, hz⟩
  have hb1 : Below w.heap.size w W1 := by rw [hz]; exact ⟨rfl, rfl, rfl, Nat.le_refl _, fun _ _ => rfl⟩
  have HC := Lib.hid (cloneF_any A n c p HN.out.1 (by omega) W1 (HX.out.1.below hb1))
  have HB1 := Lib.hid hb1
  clear hz hb1 hcq
  gi_wp2_with fail
  refine ⟨trivial, ?_⟩
  refine (callsIn_wide.2 HC.out).mono ?_
  rintro r W2 ⟨v, rfl, hv, hbw⟩
  have HBW := Lib.hid (HB1.out.trans (hbw.mono HB1.out.size))
  by_cases hn0 : n = 0
  · subst hn0
    have HPP := Lib.hid (show p = [] from List.length_eq_zero_iff.1 HN.out.1)
    obtain ⟨A2, c2, rfl, hc2, hc3, hr⟩ := hv.open
    have HT := Lib.hid (trim_any A2 p.length c2 p rfl hc2 (by rw [HN.out.1]; omega) W2 hr)
    rw [show trimL p = R by rw [← HML.out, Nat.zero_sub]; rfl] at HT
    rw [HN.out.1] at HT ⊢
    clear hv hr hc2 hc3 hbw HI HD HC
    gi_wp2
    gi_loopw [12] (fun i wr => i = .int .i64 (-1) ∧ wr = W2) (fun _ _ => 0)
    case atStart => exact ⟨rfl, rfl⟩
    case round =>
      obtain ⟨rfl, rfl⟩ := hrel
      have i7 : (-1 : Int) < (d : Int) := by omega
      have HB := Lib.hid (HBW.out)
      gi_wp2_with fail
      refine ⟨trivial, ?_⟩
      refine (callsIn_wide.2 HT.out).mono ?_
      rintro e w2 ⟨v, rfl, h1, h2⟩
      gi_wp2
      exact ⟨.tuple #[v, .int .i64 0], by simp [results, Try.results57, go_sem], v, rfl, h1.lower HB.out.size, HB.out.trans (h2.mono HB.out.size)⟩
  · obtain ⟨g, rest, rfl, hg, hlm, hblk⟩ := hv.row (by rw [HN.out.1]; omega)
    rw [HN.out.1] at hlm ⊢
    obtain ⟨b0, hb0⟩ : ∃ b0, W1.heap.size = b0 := ⟨_, rfl⟩
    rw [hb0] at hg
    have HB0 := Lib.hid hb0
    have OW : RowKit.Hid (Own b0 W1 [cellsO g 5 (rowV p rest)] W2) := Lib.hid (Own.add (Own.start b0 W1) hbw (Nat.le_of_eq hb0.symm) (by rw [hb0]; exact hg) hblk)
    have HX1 := Lib.hid (HX.out.2.below HB1.out)
    have HF1 := Lib.hid (show FieldAt W1 b from ((HB1.out).block b (Array.getElem?_eq_some_iff.1 HF.out).1).trans HF.out)
    have hw1 : IntKind.i64.wrap ((n : Int) - 1) = (n : Int) - 1 := IntWalk.i64_in _ (by omega)
    clear hv hbw hblk hb0 hg HD HI HC
    gi_wp2
    clear hw1
    gi_loopw [12] (fun i wr => ∃ k : Nat, k ≤ n - d ∧ i = .int .i64 ((n : Int) - 1 - k) ∧ Own b0 W1 [cellsO g 5 (rowV (mdTo p q d t k) rest)] wr) (fun i _ => (intOf i + 1).toNat)
    case atStart => exact ⟨0, Nat.zero_le _, by rw [show (n : Int) - 1 - ((0 : Nat) : Int) = (n : Int) - 1 from by omega], OW.out⟩
    case round =>
      obtain ⟨k, hk, rfl, hO⟩ := hrel
      clear OW
      have OW := Lib.hid hO
      obtain ⟨G, OZ⟩ := own_size OW HB0
      clear hO
      have HK := Lib.hid hk
      by_cases h1 : k < n - d
      · obtain ⟨i, hi⟩ : ∃ i, n - 1 - k = i := ⟨_, rfl⟩
        have hii : (n : Int) - 1 - (k : Int) = (i : Int) := by omega
        rw [hii]
        have i0 : (0 : Int) ≤ (i : Int) := by omega
        have i1 : (i : Int) < (n : Int) := by omega
        have i2 : (d : Int) ≤ (i : Int) := by omega
        have hco := (OW.out.blk (k := 0) rfl).cell i
        rw [rowV_get (by rw [mdTo_len, HN.out.1]; omega)] at hco
        have HST := Lib.hid (show mdTo p q d t (k + 1) = mdIn q (gm (co (mdTo p q d t k) i) t) (mdTo p q d t k) (i - d) (d + 1) by
          rw [mdTo, HN.out.1, hi]
          exact (mdIn_all (by omega)).symm)
        have HL := Lib.hid (show (mdTo p q d t k).length = n by rw [mdTo_len, HN.out.1])
        obtain ⟨o, ho⟩ : ∃ o, mdTo p q d t k = o := ⟨_, rfl⟩
        rw [ho] at hco HST HL OW
        obtain ⟨x, hx⟩ : ∃ x, co o i = x := ⟨_, rfl⟩
        rw [hx] at hco HST
        have HM := Lib.hid (fmul_any b x t wr (OW.out.field HB0.out HF1.out))
        obtain ⟨a, ha⟩ : ∃ a, gm x t = a := ⟨_, rfl⟩
        rw [ha] at HM HST
        have HI := Lib.hid (And.intro hi hii)
        clear ho hx ha hi hii hk
        gi_wp2_with fail
        refine ⟨trivial, ?_⟩
        refine (callsIn_wide.2 HM.out).mono ?_
        rintro r w2 ⟨rfl, z, hz⟩
        have OW2 := Lib.hid (OW.out.drewN z)
        rw [← hz] at OW2
        clear OW OZ HM hz hco
        have OW := OW2
        clear OW2
        have hw2 : IntKind.i64.wrap ((d : Int) + 1) = (d : Int) + 1 := IntWalk.i64_in _ (by omega)
        gi_wp2
        clear hw2
        gi_loopw [50] (fun s wr => ∃ j : Nat, j ≤ d + 1 ∧ s = .int .i64 j ∧ Own b0 W1 [cellsO g 5 (rowV (mdIn q a o (i - d) j) rest)] wr) (fun s _ => d + 1 - (intOf s).toNat)
        case atStart => exact ⟨0, Nat.zero_le _, rfl, by rw [mdIn_zero]; exact OW.out⟩
        case round =>
          obtain ⟨j, hj, rfl, hO⟩ := hrel
          clear OW
          have OW := Lib.hid hO
          obtain ⟨G, OZ⟩ := own_size OW HB0
          clear hO
          by_cases h2 : j < d + 1
          · have i3 : (0 : Int) ≤ (j : Int) := by omega
            have i4 : (j : Int) < (d : Int) + 1 := by omega
            have i5 : (j : Int) < (m : Int) := by omega
            obtain ⟨bb, ob, hBe, hcb⟩ := RdB.at j (OW.out.rd HB0.out HX1.out) (by have := HN.out.2; omega)
            injection hBe with hBe
            injection hBe with e1 e2
            subst e1 e2
            have hlt : i - d + j < o.length := by rw [HL.out]; omega
            have hco := (OW.out.blk (k := 0) rfl).cell (i - d + j)
            rw [rowV_get (by rw [mdIn_len]; exact hlt), mdIn_co hlt] at hco
            have HS := Lib.hid (show (rowV (mdIn q a o (i - d) j) rest).setIfInBounds (i - d + j) (vU (co o (i - d + j) ^^^ gm a (co q j))) = rowV (mdIn q a o (i - d) (j + 1)) rest by rw [rowV_set (by rw [mdIn_len]; exact hlt), mdIn_set])
            have HL2 := Lib.hid (show i - d + j < (rowV (mdIn q a o (i - d) j) rest).size by rw [rowV_size, mdIn_len]; omega)
            obtain ⟨z, hz⟩ : ∃ z, i - d = z := ⟨_, rfl⟩
            have hw3 : IntKind.i64.wrap ((i : Int) - (d : Int)) = (z : Int) := by rw [show (i : Int) - (d : Int) = (z : Int) from by omega]; exact IntWalk.i64_in _ (by omega)
            obtain ⟨t2, ht2⟩ : ∃ t2, i - d + j = t2 := ⟨_, rfl⟩
            have hw4 : IntKind.i64.wrap ((z : Int) + (j : Int)) = (t2 : Int) := by rw [show (z : Int) + (j : Int) = (t2 : Int) from by omega]; exact IntWalk.i64_in _ (by omega)
            have i6 : (0 : Int) ≤ (t2 : Int) := by omega
            have i7 : (t2 : Int) < (n : Int) := by have := HL.out; omega
            rw [ht2] at hco HS HL2
            obtain ⟨y, hy⟩ : ∃ y, co q j = y := ⟨_, rfl⟩
            rw [hy] at hcb HS
            obtain ⟨s, hs⟩ : ∃ s, co o t2 = s := ⟨_, rfl⟩
            rw [hs] at hco HS
            have HM := Lib.hid (fun z => fmul_any b a y (wr.drewN z) ((OW.out.drewN z).field HB0.out HF1.out))
            have hxor := u8_xorP s (gm a y)
            obtain ⟨f, hf⟩ : ∃ f, gm a y = f := ⟨_, rfl⟩
            rw [hf] at HM HS hxor
            obtain ⟨u, hu⟩ : ∃ u, s ^^^ f = u := ⟨_, rfl⟩
            rw [hu] at HS hxor
            have FW : Fence.wide.fn 80 := trivial
            clear hy hs hf hu ht2 hz hlt
            gi_upto_region 15 with fail
            refine wpIn_region_tail 17 (by kernel_rfl) (by kernel_rfl) ?_
            simp only [List.take_succ_cons, List.take_zero, List.drop_succ_cons, List.drop_zero]
            repeat (gi_big_quiet_step ((gi_at_call 80; exact CallsIn.quiet_of (callsIn_wide.2 (HM.out _)))))
            refine wpQuietIn_nil ?_
            intro _ hw'
            obtain ⟨nq, hw''⟩ := hw'
            subst hw''
            have OW2 := Lib.hid (OW.out.drewN nq)
            clear OW OZ HM hco hcb hw3 hw4
            have OW := OW2
            obtain ⟨G2, OZ⟩ := own_size OW HB0
            clear OW2
            gi_wp2_with (refine own_store 0 5 (.tmp 69) (.tmp 68) rfl rfl rfl rfl (vU u) rfl _ HS.out HL2.out rfl szU8 _ rfl OW OZ ?_; clear OW OZ; intro W OW OZ)
            go_roundw
            case rel => exact ⟨j + 1, by omega, by go_num, OW.out⟩
            case measure => simp [intOf]; omega
          · obtain rfl : j = d + 1 := by omega
            rw [← HST.out] at OW
            have hw5 : IntKind.i64.wrap ((i : Int) - 1) = (i : Int) - 1 := IntWalk.i64_in _ (by omega)
            gi_wp2
            go_roundw
            case rel => exact ⟨k + 1, by omega, by have := HI.out.2; go_num, OW.out⟩
            case measure => simp [intOf]
      · have HT := Lib.hid (trim_any (some ⟨g, 0, none⟩) n (n + rest.length) (mdTo p q d t k) (by rw [mdTo_len, HN.out.1]) (Nat.le_add_right _ _) (by omega) wr (RdB.row (OW.out.blk (k := 0) rfl)))
        rw [show k = n - d from by omega, HML.out] at HT
        obtain ⟨z, hz⟩ : ∃ z, (n : Int) - 1 - (k : Int) = z := ⟨_, rfl⟩
        have i7 : z < (d : Int) := by omega
        rw [hz]
        clear hz
        have HB := Lib.hid (HB1.out.trans ((OW.out.done HB0).mono HB1.out.size))
        gi_wp2_with fail
        refine ⟨trivial, ?_⟩
        refine (callsIn_wide.2 HT.out).mono ?_
        rintro e w2 ⟨v, rfl, h1, h2⟩
        gi_wp2
        exact ⟨.tuple #[v, .int .i64 0], by simp [results, Try.results57, go_sem], v, rfl, h1.lower HB.out.size, HB.out.trans (h2.mono HB.out.size)⟩
end Go.Proofs.Ytkeheickaogpiaa
namespace Go.Proofs.Ytkeheickaogpiaa
open Go.RowKit Go.Shelf
set_option linter.unusedVariables false
attribute [local go_sem] Oper.semAt_some

theorem back_any (A : Option Addr) (n c : Nat) (w : World) :
    Calls Try.prog 101 #[.slice A n c] w fun e w' =>
      e = .returned (.func (.func 102) #[] #[.pointer (some ⟨w.heap.size, 0, none⟩)]) ∧ w' = w.alloc (.cells #[.slice A n c] 56) := by
  go_enter Try.func101, Try.ntmps101
  go_wp2
  go_ret
  exact ⟨rfl, rfl⟩

/-- The places from the last one down. -/
def bwL (n : Nat) : List Nat := (List.range n).map fun i => n - 1 - i
theorem bwL_len (n : Nat) : (bwL n).length = n := by simp [bwL]
theorem bwL_get {n j : Nat} (h : j < n) : (bwL n)[j]? = some (n - 1 - j) := by simp [bwL, h]
theorem RdB.blocks {w w' : World} {A : Option Addr} {p : List UInt8} (h : RdB w A p) (hs : w.heap.size ≤ w'.heap.size) (hk : ∀ b o, A = some ⟨b, o, none⟩ → w'.heap[b]? = w.heap[b]?) : RdB w' A p := by
  intro k hx
  obtain ⟨b, o, hA, hb, hc⟩ := h k hx
  exact ⟨b, o, hA, by omega, (World.cell?_of_block (a := ⟨b, o + k, none⟩) (hk b o hA)).trans hc⟩

set_option maxRecDepth 100000 in
theorem back_iter (m : Nat) (h1 : 1 ≤ m) (bs : Nat) (A : Option Addr) (n c : Nat) (p : List UInt8) (hn : p.length = n) (bn : n ≤ 100000) :
    Iter3 Fence.wide m Try.prog 102 #[.pointer (some ⟨bs, 0, none⟩)]
      (fun k : Nat => #[.int .i64 (k : Int), .int .u8 ((co p k).toNat : Int)]) (bwL n) (fun _ => False) (fun b => b = bs ∨ ∃ o, A = some ⟨b, o, none⟩ ∧ 0 < n)
      (fun W => W.cell? ⟨bs, 0, none⟩ = some (.slice A n c) ∧ RdB W A p) := by
  intro l J Jx W O hSt hJ hJx hS hO hY h0
  obtain ⟨s1, s2⟩ := hSt
  have hbs : bs < W.heap.size := by
    obtain ⟨o, ho, _⟩ := cells_of_cell s1
    exact (Array.getElem?_eq_some_iff.1 ho).1
  have HKB := Lib.hid (show ∀ b, (b = bs ∨ ∃ o, A = some ⟨b, o, none⟩ ∧ 0 < n) → b < W.heap.size by
    rintro b (rfl | ⟨o, ho, h0⟩)
    · exact hbs
    · obtain ⟨b2, o2, hA, hb, _⟩ := s2 0 (by omega)
      rw [hA] at ho
      injection ho with ho
      injection ho with e1 _
      omega)
  have HY := Lib.hid hY
  have H0 := Lib.hid h0
  have HN := Lib.hid hn
  have HS2 := Lib.hid s2
  have HLEN := Lib.hid (bwL_len n)
  have HGET := Lib.hid (fun j (hj : j < n) => bwL_get hj)
  have hw0 : IntKind.i64.wrap ((n : Int) - 1) = (n : Int) - 1 := IntWalk.i64_in _ (by omega)
  clear hY hJ hJx h0 hS hO hbs hn s2
  refine callsIn_of_wp Try.func102 rfl trivial ?_ rfl
  simp only [Try.ntmps102, List.size_toArray, List.length_cons, List.length_nil, Nat.reduceAdd, Nat.reduceSub, Array.replicate_succ, Array.replicate_zero, List.push_toArray, List.append_toArray, List.nil_append, List.cons_append]
  gi_wp2
  clear hw0
  gi_loopw [3] (fun i wr => ∃ j : Nat, ∃ O1 : Nat → Prop, j ≤ n ∧ i = .int .i64 ((n : Int) - 1 - j) ∧ J j O1 wr ∧ W.heap.size ≤ wr.heap.size ∧ ∀ b, (b = bs ∨ ∃ o, A = some ⟨b, o, none⟩ ∧ 0 < n) → wr.heap[b]? = W.heap[b]?) (fun i _ => (intOf i + 1).toNat)
  case atStart => exact ⟨0, O, by omega, by rw [show (n : Int) - 1 - ((0 : Nat) : Int) = (n : Int) - 1 from by omega], H0.out, Nat.le_refl _, fun _ _ => rfl⟩
  case round =>
    obtain ⟨j, O1, hj, rfl, hJ, hsz, hbk⟩ := hrel
    by_cases hlt : j < n
    · have e2 : wr.cell? ⟨bs, 0, none⟩ = some (.slice A n c) := by rw [World.cell?_of_block (a := ⟨bs, 0, none⟩) (hbk bs (.inl rfl))]; exact s1
      obtain ⟨k, hk⟩ : ∃ k, n - 1 - j = k := ⟨_, rfl⟩
      have hkk : (n : Int) - 1 - (j : Int) = (k : Int) := by omega
      rw [hkk]
      have hr : RdB wr A p := HS2.out.blocks hsz fun b o h => hbk b (.inr ⟨o, h, by omega⟩)
      obtain ⟨b1, o1, rfl, hc⟩ := RdB.at k hr (by have := HN.out; omega)
      obtain ⟨fn, tmps, assign, body, hy, hR⟩ := HY.out j k O1 wr (by rw [HGET.out j hlt, hk]) hJ hsz
      obtain ⟨x, hx⟩ : ∃ x, ((co p k).toNat : Int) = x := ⟨_, rfl⟩
      rw [hx] at hc hy
      have i0 : (0 : Int) ≤ (k : Int) := by omega
      have i1 : (k : Int) < (n : Int) := by omega
      have HSZ := Lib.hid (And.intro hsz hbk)
      have HKK := Lib.hid (And.intro hk hkk)
      clear hJ hsz hbk hr hx hk hkk
      gi_wp2
      refine hR.mono ?_
      rintro e W3 ⟨O3, hgr, (⟨rfl, hJ3⟩ | ⟨rfl, hJ3⟩)⟩
      · have HJ3 := Lib.hid hJ3
        have HGR := Lib.hid (And.intro hgr.size (fun b hb => hgr.keep b (Nat.lt_of_lt_of_le (HKB.out b hb) HSZ.out.1) (.inr hb)))
        have hw5 : IntKind.i64.wrap ((k : Int) - 1) = (k : Int) - 1 := IntWalk.i64_in _ (by omega)
        clear hJ3 hgr hy hR e2 hc
        gi_wp2
        go_roundw
        case rel => exact ⟨j + 1, O3, by omega, by have := HKK.out.2; go_num, HJ3.out, Nat.le_trans HSZ.out.1 HGR.out.1, fun b hb => (HGR.out.2 b hb).trans (HSZ.out.2 b hb)⟩
        case measure => simp [intOf]
      · have HJ3 := Lib.hid hJ3
        clear hJ3 hgr hy hR e2 hc
        gi_wp2
        refine bodyPost_ret (results_none rfl _ _ _) rfl ?_
        exact ⟨⟨_, rfl⟩, .inr ⟨j, by rw [HLEN.out]; exact hlt, O3, HJ3.out⟩⟩
    · obtain rfl : j = n := by omega
      have HJ := Lib.hid hJ
      rw [show (j : Int) - 1 - (j : Int) = -1 from by omega]
      clear hJ hsz hbk
      gi_wp2
      go_end0
      exact ⟨⟨_, rfl⟩, .inl ⟨O1, by rw [HLEN.out]; exact HJ.out⟩⟩

/-- The value of what stands from a place on, as it is reckoned. -/
def hv (p : List UInt8) (x : UInt8) : Nat → UInt8
  | 0 => 0
  | j + 1 => gm (hv p x j) x ^^^ co p (p.length - 1 - j)
theorem hv_spec (p : List UInt8) (x : UInt8) (j : Nat) (hj : j ≤ p.length) : gm (hv p x j) (pw x (p.length - j)) ^^^ ev (co p) (p.length - j) x = evalL p x := by
  induction j with
  | zero => rw [hv, zero_gm, UInt8.zero_xor, Nat.sub_zero]; rfl
  | succ j ih =>
    rw [← ih (by omega), hv, xor_gm]
    obtain ⟨m, hm⟩ : ∃ m, p.length - (j + 1) = m := ⟨_, rfl⟩
    have h1 : p.length - j = m + 1 := by omega
    have h2 : p.length - 1 - j = m := by omega
    have e1 : ev (co p) (m + 1) x = ev (co p) m x ^^^ gm (co p m) (pw x m) := rfl
    rw [hm, h1, h2, e1, pw, gm_assoc, gm_comm x, UInt8.xor_assoc, UInt8.xor_comm (gm (co p m) (pw x m))]
theorem hv_all (p : List UInt8) (x : UInt8) : hv p x p.length = evalL p x := by
  have h := hv_spec p x p.length (Nat.le_refl _)
  rw [Nat.sub_self, pw, gm_one, show ev (co p) 0 x = 0 from rfl, UInt8.xor_zero] at h
  exact h
theorem naF : ∀ w, (isAgg 93).run Try.prog w = .ok false w := fun _ => by kernel_rfl
set_option maxRecDepth 100000 in
set_option maxHeartbeats 1000000 in
theorem peval_any (b : Nat) (A : Option Addr) (n c : Nat) (p : List UInt8) (x : UInt8) (hn : p.length = n) (bn : n ≤ 100000) (w : World) (hF : FieldAt w b) (hx : RdB w A p) :
    Calls Try.prog 100 #[.pointer (some ⟨b, 0, none⟩), .slice A n c, .int .u8 (x.toNat : Int)] w fun e w' => e = .returned (.int .u8 ((evalL p x).toNat : Int)) ∧ Below w.heap.size w w' := by
  have HX := Lib.hid hx
  have HF := Lib.hid hF
  have HN := Lib.hid hn
  have HV := Lib.hid (show hv p x n = evalL p x by rw [← hn]; exact hv_all p x)
  have HVS := Lib.hid (fun j => (show hv p x (j + 1) = gm (hv p x j) x ^^^ co p (n - 1 - j) by rw [← hn]; rfl))
  obtain ⟨b0, hb0⟩ : ∃ b0, w.heap.size = b0 := ⟨_, rfl⟩
  have HB0 := Lib.hid hb0
  have OW := Lib.hid (Own.start b0 w)
  have OZ := Lib.hid (And.intro hb0 (Nat.le_refl b0))
  clear hb0 hx hF hn
  refine (callsIn_wide (n := 6)).1 ?_
  refine callsIn_of_wp_marks Try.func100 rfl trivial ?_ rfl
  simp only [Try.ntmps100, List.size_toArray, List.length_cons, List.length_nil, Nat.reduceAdd, Nat.reduceSub, Array.replicate_succ, Array.replicate_zero, List.push_toArray, List.append_toArray, List.nil_append, List.cons_append]
  gi_wp2_with (first
    | (refine own_box 93 (.tmp 0) rfl rfl (.pointer (some ⟨b, 0, none⟩)) rfl _ rfl OW OZ ?_; clear OW OZ; intro W OW OZ)
    | (refine own_box 5 (.tmp 2) rfl rfl (.int .u8 (x.toNat : Int)) rfl _ rfl OW OZ ?_; clear OW OZ; intro W OW OZ)
    | (refine own_alloc 5 rfl rfl _ alU8 OW OZ ?_; clear OW OZ; intro W OW OZ)
    | (refine own_store 2 5 (.tmp 7) (.const (.int .u8 0)) rfl rfl rfl rfl (.int .u8 0) rfl #[.int .u8 0] rfl (by decide) rfl szU8 _ rfl OW OZ ?_; clear OW OZ; intro W OW OZ))
  refine ⟨trivial, ?_⟩
  refine (callsIn_wide.2 (back_any _ _ _ _)).mono ?_
  rintro e U ⟨rfl, hU⟩
  rw [OZ.out.1]
  have hOU : Own b0 w [cellsO b0 93 #[.pointer (some ⟨b, 0, none⟩)], cellsO (b0 + 1) 5 #[.int .u8 (x.toNat : Int)], cellsO (b0 + 1 + 1) 5 #[.int .u8 0], cellsO (b0 + 1 + 1 + 1) 56 #[.slice A n c]] U := by
    have h1 := OW.out.alloc (by rw [OZ.out.1]; exact OZ.out.2) (.cells #[Value.slice A n c] 56)
    rw [← hU, OZ.out.1] at h1
    exact h1
  have hZU : U.heap.size = b0 + 1 + 1 + 1 + 1 ∧ b0 ≤ b0 + 1 + 1 + 1 + 1 := ⟨by rw [hU]; simp [OZ.out.1], by omega⟩
  clear OW OZ hU
  have OW := Lib.hid hOU
  have OZ := Lib.hid hZU
  clear hOU hZU
  gi_wp2
  refine own_iterB (n := 6) rfl (by omega) (gf := 102) (lb := #[.pointer (some ⟨b0 + 1 + 1 + 1, 0, none⟩)]) rfl trivial (enters_of Try.func102 (by kernel_rfl) rfl)
    (back_iter (6 - 1) (by omega) (b0 + 1 + 1 + 1) A n c p HN.out bn) HB0.out
    (fun i Ls => Ls = [cellsO b0 93 #[.pointer (some ⟨b, 0, none⟩)], cellsO (b0 + 1) 5 #[.int .u8 (x.toNat : Int)], cellsO (b0 + 1 + 1) 5 #[vU (hv p x i)], cellsO (b0 + 1 + 1 + 1) 56 #[.slice A n c]])
    (fun _ _ _ => False) rfl OW OZ ?hSt ?hK (fun _ => rfl) ?act1 ?assign ?body ?done ?stop
  case hSt =>
    intro W' hW'
    have h1 := OW.out.blk (k := 3) rfl
    refine ⟨by rw [World.cell?_of_block (a := ⟨b0 + 1 + 1 + 1, 0, none⟩) (hW' _ h1.lt)]; exact h1.cell 0, ?_⟩
    rcases Nat.eq_zero_or_pos n with h0 | h0
    · rw [List.length_eq_zero_iff.1 (HN.out.trans h0)]
      exact RdB.nil
    · have hr := OW.out.rd HB0.out HX.out
      have hlt : ∀ b, b < U.heap.size → b < W'.heap.size := fun b hb => by
        have h2 := hW' b hb
        rw [Array.getElem?_eq_getElem hb] at h2
        exact (Array.getElem?_eq_some_iff.1 h2).1
      refine hr.blocks ?_ fun b o h => ?_
      · apply Nat.le_of_not_lt
        intro h
        exact absurd (hlt _ h) (by omega)
      · obtain ⟨b2, o2, hA, hb2, _⟩ := hr 0 (by have := HN.out; omega)
        rw [hA] at h
        injection h with h
        injection h with e1 _
        exact hW' b (by omega)
  case hK =>
    rintro b1 (rfl | ⟨o, h, h0⟩)
    · exact .inr ⟨cellsO (b0 + 1 + 1 + 1) 56 #[.slice A n c], by simp, rfl⟩
    · obtain ⟨b2, o2, hA, hb2, _⟩ := HX.out 0 (by have := HN.out; omega)
      rw [hA] at h
      injection h with h
      injection h with e1 _
      exact .inl (by rw [← HB0.out]; omega)
  case assign =>
    intro l x W K hK
    gi_wp2
    exact hK
  case body =>
    rintro l i k Ls W1 G1 hx rfl OW1 OW2 OZ1 OM
    have hi : i < n := by have := (List.getElem?_eq_some_iff.1 hx).1; rw [bwL_len] at this; exact this
    rw [bwL_get hi] at hx
    obtain rfl : n - 1 - i = k := Option.some.inj hx
    have hst := HVS.out i
    obtain ⟨s, hs⟩ : ∃ s, hv p x i = s := ⟨_, rfl⟩
    obtain ⟨y, hy⟩ : ∃ y, co p (n - 1 - i) = y := ⟨_, rfl⟩
    rw [hs, hy] at hst
    rw [hs] at OW1 OW2
    rw [hy]
    have HM := Lib.hid (fmul_any b s x W1 (OW1.out.field HB0.out HF.out))
    have hxor := u8_xorP (gm s x) y
    obtain ⟨g, hg⟩ : ∃ g, gm s x = g := ⟨_, rfl⟩
    rw [hg] at HM hst hxor
    obtain ⟨u, hu⟩ : ∃ u, g ^^^ y = u := ⟨_, rfl⟩
    rw [hu] at hst hxor
    have HST := Lib.hid hst
    clear hs hy hg hu hst hx OW1
    gi_wp2_with (first
      | (refine own_load 0 93 (.tmp 3) rfl rfl rfl rfl (.pointer (some ⟨b, 0, none⟩)) rfl naF OW2 ?_)
      | (refine own_load 2 5 (.tmp 7) rfl rfl rfl rfl (vU s) rfl naU8 OW2 ?_)
      | (refine own_load 1 5 (.tmp 5) rfl rfl rfl rfl (vU x) rfl naU8 OW2 ?_))
    refine ⟨trivial, ?_⟩
    refine (CallsIn.inRound l (callsIn_wide.2 HM.out)).mono ?_
    rintro e w2 ⟨rfl, q, hq⟩
    have OW3 := Lib.hid (OW2.out.drewN q)
    have OZ3 := Lib.hid (show w2.heap.size = G1 ∧ b0 ≤ G1 by rw [hq]; exact OZ1.out)
    rw [← hq] at OW3
    clear OW2 HM hq OZ
    gi_wp2_with (refine own_store 2 5 (.tmp 7) (.tmp 19) rfl rfl rfl rfl (vU u) rfl #[vU u] rfl (Nat.le_of_ble_eq_true rfl) rfl szU8 _ rfl OW3 OZ3 ?_; clear OW3 OZ3; intro W OW3 OZ3)
    refine OwnNext.mkB (E := []) (L1 := [cellsO b0 93 #[.pointer (some ⟨b, 0, none⟩)], cellsO (b0 + 1) 5 #[.int .u8 (x.toNat : Int)], cellsO (b0 + 1 + 1) 5 #[vU u], cellsO (b0 + 1 + 1 + 1) 56 #[.slice A n c]]) OW3.out (by simp) rfl (by rw [HST.out]) ?_ ?_
    · rintro b1 (rfl | ⟨o, h, h0⟩)
      · exact .inr ⟨cellsO (b0 + 1 + 1 + 1) 56 #[.slice A n c], by simp, by simp, rfl⟩
      · obtain ⟨b2, o2, hA, hb2, _⟩ := HX.out 0 (by have := HN.out; omega)
        rw [hA] at h
        injection h with h
        injection h with e1 _
        exact .inl (by rw [← HB0.out]; omega)
    · intro y hy
      simp only [List.append_nil, List.mem_cons, List.not_mem_nil, or_false] at hy
      rcases hy with rfl | rfl | rfl | rfl <;> exact .inl rfl
  case stop => rintro D c' i Ls W2 G2 hi h; exact h.elim
  case done =>
    rintro D Ls W2 G2 rfl OW1 OZ1
    rw [bwL_len, HV.out] at OW1
    clear OW OZ
    gi_wp2_with (refine own_load 2 5 (.tmp 7) rfl rfl rfl rfl (vU (evalL p x)) rfl naU8 OW1 ?_)
    refine leaves_own [D] _ (Nat.le_of_eq HB0.out) OW1.out ?_
    intro W' hO
    exact ⟨_, by simp [results, Try.results100, go_sem], rfl, hO.done HB0⟩
end Go.Proofs.Ytkeheickaogpiaa
