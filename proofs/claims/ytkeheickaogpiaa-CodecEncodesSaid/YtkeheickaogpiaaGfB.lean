/- Several texts in one: GfW GfN GfL GfR GfD. -/
import Derived.Test.YtkeheickaogpiaaRows
import Derived.Test.YtkeheickaogpiaaGfA
import Derived.WalkKit
import Derived.WalkSpells
import Derived.WalkLawsBesides
import Derived.Lib.Hide
import Derived.Deep.QuietTactic
import Derived.BigQuiet
import Derived.OpenShut
namespace Go.Proofs.Ytkeheickaogpiaa
open Go.RowKit

theorem ret_int {k : IntKind} {a b : Int} (h : a = b) : Ending.returned (.int k a) = .returned (.int k b) := by rw [h]

def fieldCells : Array Value := (expL.map (fun x => Value.int .u8 (x : Nat)) ++ logL.map (fun x => Value.int .i64 (x : Nat))).toArray
/-- Block b holds the field, its tables laid. -/
def FieldAt (w : World) (b : Nat) : Prop := w.heap[b]? = some (.cells fieldCells 137 (0, 0))
theorem FieldAt.expCell {w : World} {b : Nat} (h : FieldAt w b) (i : Nat) (hi : i < 255) : w.cell? ⟨b, i, none⟩ = some (.int .u8 (gE i)) := by
  rw [cell_of_row w b i _ _ _ h]
  unfold fieldCells gE
  rw [List.getElem?_toArray, List.getElem?_append_left (by rw [List.length_map, expL_len]; exact hi), List.getElem?_map, List.getElem?_eq_getElem (by rw [expL_len]; exact hi), List.getD_eq_getElem?_getD, List.getElem?_eq_getElem (by rw [expL_len]; exact hi)]
  rfl
theorem FieldAt.logCell {w : World} {b : Nat} (h : FieldAt w b) (a : Nat) (ha : a < 256) : w.cell? ⟨b, 255 + a, none⟩ = some (.int .i64 (gL a)) := by
  rw [cell_of_row w b (255 + a) _ _ _ h]
  unfold fieldCells gL
  rw [List.getElem?_toArray, List.getElem?_append_right (by rw [List.length_map, expL_len]; omega), List.length_map, expL_len, Nat.add_sub_cancel_left, List.getElem?_map, List.getElem?_eq_getElem (by rw [logL_len]; exact ha), List.getD_eq_getElem?_getD, List.getElem?_eq_getElem (by rw [logL_len]; exact ha)]
  rfl
theorem FieldAt.drewN {w : World} {b : Nat} (h : FieldAt w b) (n : Nat) : FieldAt (w.drewN n) b := h

theorem i64_sum (a b : Int) (h0 : 0 ≤ a + b) (h1 : a + b < 9223372036854775808) : IntKind.i64.wrap (a + b) = a + b := IntWalk.i64_in _ (by omega)

theorem cut_any (n : Int) (m : Nat) (hm : n % 255 = m) (w : World) :
    Calls Try.prog 90 #[.int .i64 n] w fun e w' => e = .returned (.int .i64 m) ∧ ∃ k, w' = w.drewN k := by
  have H := Lib.hid hm
  clear hm
  go_enter Try.func90, Try.ntmps90
  go_wp2
  · have hlt : n.tmod 255 < 0 := by assumption
    go_ret
    refine ⟨ret_int ?_, 0, rfl⟩
    rw [← H.out]
    have := Int.tmod_eq_emod (a := n) (b := 255)
    unfold wrap64
    split at this <;> omega
  · have hlt : 0 ≤ n.tmod 255 := by assumption
    go_ret
    refine ⟨ret_int ?_, 0, rfl⟩
    rw [← H.out]
    have := Int.tmod_eq_emod (a := n) (b := 255)
    split at this <;> omega

theorem and128 : ∀ a : Nat, a < 256 → (bits .and .u8 (a : Int) 128 != 0) = a.testBit 7 := by decide +kernel
theorem xt_hi : ∀ a : Nat, a < 256 → a.testBit 7 = true → bits .xor .u8 ((a : Int) * 2 % 256) 29 = (xt a : Nat) := by decide +kernel
theorem xt_lo : ∀ a : Nat, a < 256 → a.testBit 7 = false → ((a : Int) * 2 % 256) = (xt a : Nat) := by decide +kernel

theorem twice_any (a : Nat) (ha : a < 256) (w : World) :
    Calls Try.prog 74 #[.int .u8 a] w fun e w' => e = .returned (.int .u8 (xt a)) ∧ w = w' := by
  have h1 := and128 a ha
  have H1 := Lib.hid h1
  clear h1
  go_enter Try.func74, Try.ntmps74
  go_wp2
  · have h : (bits BinOp.and IntKind.u8 (↑a) 128 != 0) = true := by assumption
    rw [H1.out] at h
    go_ret
    exact ⟨ret_int (xt_hi a ha h), rfl⟩
  · have h : (bits BinOp.and IntKind.u8 (↑a) 128 != 0) = false := by assumption
    rw [H1.out] at h
    go_ret
    exact ⟨ret_int (xt_lo a ha h), rfl⟩

theorem exp_any (b : Nat) (n : Int) (m : Nat) (hm : n % 255 = m) (w : World) (hF : FieldAt w b) :
    Calls Try.prog 72 #[.pointer (some ⟨b, 0, none⟩), .int .i64 n] w fun e w' => e = .returned (.int .u8 (gE m)) ∧ ∃ k, w' = w.drewN k := by
  have hml : m < 255 := by omega
  have hc := hF.expCell m hml
  have H := Lib.hid hm
  have HF := Lib.hid hF
  clear hm hF
  have i0 : (0 : Int) ≤ (m : Int) := by omega
  have i1 : (m : Int) < 255 := by omega
  go_enter Try.func72, Try.ntmps72
  go_wp2_with fail
  go_quiet ((go_at_call 90; exact Calls.quiet_of (cut_any n m H.out _)))
  go_wp2
  go_ret
  exact ⟨rfl, _, rfl⟩

theorem mul_any (b : Nat) (a c : Int) (x y : Nat) (hx : a = x) (hy : c = y) (lx : x < 256) (ly : y < 256) (w : World) (hF : FieldAt w b) :
    Calls Try.prog 80 #[.pointer (some ⟨b, 0, none⟩), .int .u8 a, .int .u8 c] w fun e w' => e = .returned (.int .u8 (gmulN x y)) ∧ ∃ k, w' = w.drewN k := by
  subst hx hy
  by_cases h0 : x = 0
  · subst h0
    rw [zero_gmulN]
    go_enter Try.func80, Try.ntmps80
    go_wp2
    go_ret
    exact ⟨rfl, 0, rfl⟩
  by_cases h1 : y = 0
  · subst h1
    rw [gmulN_zero]
    have g0 : ((x : Int) == 0) = false := beq_eq_false_iff_ne.2 (by omega)
    go_enter Try.func80, Try.ntmps80
    go_wp2
    go_ret
    exact ⟨rfl, 0, rfl⟩
  have hr : gmulN x y = gE ((gL x + gL y) % 255) := by unfold gmulN; rw [if_neg (by omega)]
  rw [hr]
  have cx := hF.logCell x lx
  have cy := hF.logCell y ly
  have bx := gL_lt x lx
  have bY := gL_lt y ly
  have HF := Lib.hid hF
  clear hF hr
  have g0 : ((x : Int) == 0) = false := beq_eq_false_iff_ne.2 (by omega)
  have g1 : ((y : Int) == 0) = false := beq_eq_false_iff_ne.2 (by omega)
  have i0 : (0 : Int) ≤ (x : Int) := by omega
  have i1 : (x : Int) < 256 := by omega
  have i2 : (0 : Int) ≤ (y : Int) := by omega
  have i3 : (y : Int) < 256 := by omega
  have hw := i64_sum (gL x) (gL y) (by omega) (by omega)
  go_enter Try.func80, Try.ntmps80
  go_wp2_with fail
  go_quiet ((go_at_call 72; exact Calls.quiet_of (exp_any b _ ((gL x + gL y) % 255) (by omega) _ (HF.out.drewN _))))
  clear hw
  go_wp2
  go_ret
  exact ⟨rfl, _, rfl⟩

theorem log_any (b : Nat) (a : Int) (x : Nat) (hx : a = x) (lx : x < 256) (h0 : x ≠ 0) (w : World) (hF : FieldAt w b) :
    Calls Try.prog 99 #[.pointer (some ⟨b, 0, none⟩), .int .u8 a] w fun e w' => e = .returned (.tuple #[.int .i64 (gL x), .int .i64 0]) ∧ ∃ k, w' = w.drewN k := by
  subst hx
  have cx := hF.logCell x lx
  have HF := Lib.hid hF
  clear hF
  have g0 : ((x : Int) == 0) = false := beq_eq_false_iff_ne.2 (by omega)
  go_enter Try.func99, Try.ntmps99
  go_wp2
  go_ret2
  exact ⟨rfl, 0, rfl⟩
end Go.Proofs.Ytkeheickaogpiaa
namespace Go.Proofs.Ytkeheickaogpiaa
open Go.RowKit

/-- The block ahead of the first round. -/
def cells0 : Array Value := (List.replicate 255 (Value.int .u8 0) ++ List.replicate 256 (Value.int .i64 0)).toArray
/-- The block behind i rounds. -/
def cellsAt : Nat → Array Value
  | 0 => cells0
  | i + 1 => ((cellsAt i).setIfInBounds i (.int .u8 (gE i : Nat))).setIfInBounds (255 + gE i) (.int .i64 (i : Nat))
theorem cells0_size : cells0.size = 511 := by unfold cells0; rw [List.size_toArray, List.length_append, List.length_replicate, List.length_replicate]
theorem cellsAt_size (i : Nat) : (cellsAt i).size = 511 := by
  induction i with
  | zero => exact cells0_size
  | succ i ih => rw [cellsAt, Array.size_setIfInBounds, Array.size_setIfInBounds, ih]
theorem cellsAt_all : cellsAt 255 = fieldCells := by kernel_rfl
theorem zeroField (w : World) : (zeroValue 137).run Try.prog w = .ok (.agg cells0) w := by kernel_rfl
theorem boxField (w : World) : (Instr.box 137 (.agg cells0)).run Try.prog w = .ok (.pointer (some ⟨w.heap.size, 0, none⟩)) (w.alloc (.cells cells0 137)) := by kernel_rfl

theorem new_any (w : World) :
    Calls Try.prog 48 #[] w fun e w' => e = .returned (.pointer (some ⟨w.heap.size, 0, none⟩)) ∧ w' = w.alloc (.cells fieldCells 137) := by
  have hz := zeroField
  have hb := boxField
  go_enter Try.func48, Try.ntmps48
  go_wp2
  clear hz hb
  go_loopw [2, 6] (fun a i wr => ∃ k : Nat, k ≤ 255 ∧ i = .int .i64 k ∧ a = .int .u8 (gE (k % 255)) ∧ wr = w.alloc (.cells (cellsAt k) 137)) (fun _ i _ => 255 - (intOf i).toNat)
  case atStart => exact ⟨0, by omega, rfl, rfl, rfl⟩
  case round =>
    obtain ⟨k, hk, rfl, rfl, rfl⟩ := hrel
    by_cases hlt : k < 255
    · have hsz := cellsAt_size k
      have hE := (gE_pos k hlt).2
      have hx := xt_gE k hlt
      have ek : k % 255 = k := Nat.mod_eq_of_lt hlt
      have HE := Lib.hid ek
      rw [ek]
      clear ek
      obtain ⟨g, hg⟩ : ∃ g, gE k = g := ⟨_, rfl⟩
      rw [hg] at hE hx ⊢
      have HG := Lib.hid hg
      have HX := Lib.hid hx
      have HS := Lib.hid hsz
      clear hg hx hsz
      have i1 : (k : Int) < 255 := by omega
      have i2 : (g : Int) < 256 := by omega
      obtain ⟨W, hW⟩ : ∃ W, w.alloc (.cells (cellsAt k) 137) = W := ⟨_, rfl⟩
      have hB : W.heap[w.heap.size]? = some (.cells (cellsAt k) 137 (0, 0)) := by rw [← hW]; exact heap_alloc_new w _
      have c1 : ∃ v, W.cell? ⟨w.heap.size, k, none⟩ = some v := by
        rw [cell_of_row W _ k _ _ _ hB, Array.getElem?_eq_getElem (by rw [HS.out]; omega)]; exact ⟨_, rfl⟩
      have c2 : ∃ v, (W.setCell ⟨w.heap.size, k, none⟩ (.int .u8 g)).cell? ⟨w.heap.size, 255 + g, none⟩ = some v := by
        rw [World.cell?_setCell_other _ _ _ _ (by intro h; injection h with _ h; omega), cell_of_row W _ (255 + g) _ _ _ hB, Array.getElem?_eq_getElem (by rw [HS.out]; omega)]; exact ⟨_, rfl⟩
      have f1 : ∀ j, W.frozen? ⟨w.heap.size, j, none⟩ = false := by intro j; simp [World.frozen?, hB]
      obtain ⟨v1, c1⟩ := c1
      obtain ⟨v2, c2⟩ := c2
      have f1a := f1 k
      have f1b := f1 (255 + g)
      rw [hW]
      have HW := Lib.hid hW
      clear hW hB f1
      go_wp2_with fail
      refine (twice_any g hE _).mono ?_
      rintro e w1 ⟨rfl, rfl⟩
      go_wp2
      go_roundw
      case rel =>
        refine ⟨k + 1, by omega, by go_num, by rw [HX.out], ?_⟩
        rw [← HW.out, World.setCell_alloc_at _ _ _ _ _ rfl, World.setCell_alloc_at _ _ _ _ _ rfl, cellsAt, HG.out]
      case measure => simp [intOf]; omega
    · obtain rfl : k = 255 := by omega
      rw [cellsAt_all]
      go_wp2
      go_ret
      exact ⟨rfl, rfl⟩

theorem FieldAt.new (w : World) : FieldAt (w.alloc (.cells fieldCells 137)) w.heap.size := heap_alloc_new w _

end Go.Proofs.Ytkeheickaogpiaa
namespace Go.Proofs.Ytkeheickaogpiaa
open Go.RowKit

end Go.Proofs.Ytkeheickaogpiaa
namespace Go.Proofs.Ytkeheickaogpiaa
open Go.RowKit

theorem ret_intR {k : IntKind} {a b : Int} (h : a = b) : Ending.returned (.int k a) = .returned (.int k b) := by rw [h]
theorem ofInt_i64 (a : Nat) (ha : a < 9223372036854775808) : (BitVec.ofInt 64 (a : Int)).toNat = a := by
  rw [BitVec.ofInt_natCast, BitVec.toNat_ofNat]; exact Nat.mod_eq_of_lt (by omega)
theorem i64_xor_nat (a b : Nat) (ha : a < 9223372036854775808) (hb : b < 9223372036854775808) : bits .xor .i64 (a : Int) (b : Int) = ((a ^^^ b : Nat) : Int) := by
  have hx : a ^^^ b < 2 ^ 63 := Nat.xor_lt_two_pow (by omega) (by omega)
  show IntKind.i64.wrap ((BitVec.ofInt 64 (a : Int) ^^^ BitVec.ofInt 64 (b : Int)).toNat : Int) = _
  rw [BitVec.toNat_xor, ofInt_i64 a ha, ofInt_i64 b hb, IntKind.wrap_i64]
  omega
theorem u8_and1 : ∀ b : Nat, b < 256 → bits .and .u8 (b : Int) 1 = ((b % 2 : Nat) : Int) := by decide +kernel

theorem refMul_any (a c : Int) (x y : Nat) (hx : a = x) (hy : c = y) (lx : x < 256) (ly : y < 256) (w : World) :
    Calls Try.prog 65 #[.int .u8 a, .int .u8 c] w fun e w' => e = .returned (.int .u8 (gmulN x y)) ∧ w = w' := by
  subst hx hy
  go_enter Try.func65, Try.ntmps65
  go_wp2
  go_loop [1, 5, 6, 7] (fun b p t i => ∃ k bb pp tt : Nat, k ≤ 8 ∧ bb < 256 ∧ tt < 256 * 2 ^ k ∧ pp < 32768 ∧ b = .int .u8 bb ∧ p = .int .i64 pp ∧ t = .int .i64 tt ∧ i = .int .i64 k ∧ rm1 (8 - k) tt bb pp = rm1 8 x y 0)
    (fun _ _ _ i => 8 - (intOf i).toNat)
  case atStart => exact ⟨0, y, 0, x, by omega, ly, by omega, by omega, rfl, rfl, rfl, rfl, rfl⟩
  case round =>
    obtain ⟨k, bb, pp, tt, hk, hb, ht, hp, rfl, rfl, rfl, rfl, hr⟩ := hrel
    have hk2 : 2 ^ k ≤ 256 := Nat.pow_le_pow_right (n := 2) (by omega) hk
    have ht2 : tt ≤ 65536 := by omega
    by_cases hlt : k < 8
    · have hk3 : 2 ^ k ≤ 128 := Nat.pow_le_pow_right (n := 2) (i := k) (j := 7) (by omega) (by omega)
      have ht3 : tt < 32768 := by omega
      have hand := u8_and1 bb hb
      have hxor := i64_xor_nat pp tt (by omega) (by omega)
      have hx15 : pp ^^^ tt < 32768 := Nat.xor_lt_two_pow (n := 15) hp ht3
      have hstep : rm1 (8 - k) tt bb pp = rm1 (8 - (k + 1)) (tt * 2) (bb / 2) (pp ^^^ (if bb % 2 = 1 then tt else 0)) := by
        rw [show 8 - k = (8 - (k + 1)) + 1 from by omega]; rfl
      rw [hstep] at hr
      have ht4 : tt * 2 < 256 * 2 ^ (k + 1) := by rw [Nat.pow_succ]; omega
      have HR := Lib.hid hr
      have HT := Lib.hid ht4
      clear hr hstep ht hk2 hk3 ht4
      go_wp2
      · have hodd : ((bb : Int) % 2 == 1) = true := by assumption
        have hodd2 : bb % 2 = 1 := by rw [beq_iff_eq] at hodd; omega
        go_round
        case rel => exact ⟨k + 1, bb / 2, pp ^^^ tt, tt * 2, by omega, by omega, HT.out, hx15, by go_num, rfl, by go_num, by go_num, by rw [← HR.out, if_pos hodd2]⟩
        case measure => simp [intOf]; omega
      · have hodd : ((bb : Int) % 2 == 1) = false := by assumption
        have hodd2 : ¬ bb % 2 = 1 := by rw [beq_eq_false_iff_ne] at hodd; omega
        go_round
        case rel => exact ⟨k + 1, bb / 2, pp, tt * 2, by omega, by omega, HT.out, hp, by go_num, rfl, by go_num, by go_num, by rw [← HR.out, if_neg hodd2, Nat.xor_zero]⟩
        case measure => simp [intOf]; omega
    · obtain rfl : k = 8 := by omega
      have hr2 : rm2 7 pp = gmulN x y := by
        rw [← rmulN_eq x y lx ly, rmulN, ← hr]; rfl
      have HR := Lib.hid hr2
      clear hr hr2 hk ht hk2 ht2
      go_wp2
      go_loop [5, 8] (fun p i => ∃ r q : Nat, r ≤ 7 ∧ q < 32768 ∧ p = .int .i64 q ∧ i = .int .i64 ((r : Int) + 7) ∧ rm2 r q = gmulN x y)
        (fun _ i => (intOf i).toNat)
      case atStart => exact ⟨7, pp, by omega, hp, rfl, rfl, HR.out⟩
      case round =>
        obtain ⟨r, q, hr7, hq, rfl, rfl, hr⟩ := hrel
        have HR2 := Lib.hid hr
        clear HR hr
        by_cases hr0 : 1 ≤ r
        · go_wp2
          go_loop [9, 10] (fun t i => ∃ k u : Nat, k ≤ r + 7 ∧ u = 2 ^ k ∧ t = .int .i64 u ∧ i = .int .i64 k) (fun _ i => r + 7 - (intOf i).toNat)
          case atStart => exact ⟨0, 1, by omega, rfl, rfl, rfl⟩
          case round =>
            obtain ⟨k, u, hk, hu, rfl, rfl⟩ := hrel
            have hu2 : u ≤ 16384 := by rw [hu]; exact Nat.pow_le_pow_right (n := 2) (j := 14) (by omega) (by omega)
            have hu3 : 1 ≤ u := by rw [hu]; exact Nat.one_le_two_pow
            have HU := Lib.hid hu
            clear hu
            by_cases hlt : k < r + 7
            · go_wp2
              go_round
              case rel => exact ⟨k + 1, u * 2, by omega, by rw [HU.out, Nat.pow_succ], by go_num, by go_num⟩
              case measure => simp [intOf]; omega
            · obtain rfl : k = r + 7 := by omega
              obtain ⟨n, rfl⟩ : ∃ n, r = n + 1 := ⟨r - 1, by omega⟩
              have hd : 285 * u / 256 = 285 * 2 ^ n := by
                rw [HU.out, show n + 1 + 7 = n + 8 from by omega, Nat.pow_add]
                omega
              have hd2 : 285 * u / 256 < 32768 := by omega
              have hxor : bits .xor .i64 (q : Int) (285 * (u : Int) / 256) = ((q ^^^ (285 * u / 256) : Nat) : Int) := by
                rw [← i64_xor_nat q (285 * u / 256) (by omega) (by omega)]
                congr 1
              have hxl : q ^^^ (285 * u / 256) < 32768 := Nat.xor_lt_two_pow (n := 15) hq hd2
              have htb : q.testBit (n + 8) = decide (q / u % 2 = 1) := by
                rw [HU.out, show n + 1 + 7 = n + 8 from by omega, Nat.testBit_eq_decide_div_mod_eq]
              have HD := Lib.hid hd
              have HTB := Lib.hid htb
              clear hd htb hlt hk
              have hw64 : wrap64 ((q : Int) / u) = ((q / u : Nat) : Int) := by
                rw [← Int.natCast_ediv]
                have hle := Nat.div_le_self q u
                obtain ⟨d, hd⟩ : ∃ d, q / u = d := ⟨_, rfl⟩
                rw [hd] at hle ⊢
                unfold wrap64
                omega
              obtain ⟨d, hd⟩ : ∃ d, q / u = d := ⟨_, rfl⟩
              have HQ := Lib.hid hd
              rw [hd] at hw64
              clear hd
              by_cases hbit : d % 2 = 1
              · have hT : ((wrap64 ((q : Int) / u)).tmod 2 == 1) = true := by
                  rw [hw64, beq_iff_eq, Int.tmod_eq_emod_of_nonneg (by omega)]
                  omega
                clear hw64
                have HB := Lib.hid hbit
                clear hbit
                go_wp2
                refine ⟨⟨n, _, by omega, hxl, rfl, by go_num, ?_⟩, by simp [intOf]; omega⟩
                rw [← HR2.out, rm2, HTB.out, HQ.out, decide_eq_true HB.out, HD.out]
                simp
              · have hT : ((wrap64 ((q : Int) / u)).tmod 2 == 1) = false := by
                  rw [hw64, beq_eq_false_iff_ne, Int.tmod_eq_emod_of_nonneg (by omega)]
                  omega
                clear hw64
                have HB := Lib.hid hbit
                clear hbit
                go_wp2
                refine ⟨⟨n, q, by omega, hq, rfl, by go_num, ?_⟩, by simp [intOf]; omega⟩
                rw [← HR2.out, rm2, HTB.out, HQ.out, decide_eq_false HB.out]
                simp
        · obtain rfl : r = 0 := by omega
          have hq2 : q = gmulN x y := HR2.out
          have hlt := gmulN_lt x y
          have HQ2 := Lib.hid hq2
          clear hq2
          go_wp2
          go_ret
          have := HQ2.out
          exact ⟨ret_intR (by omega), rfl⟩

end Go.Proofs.Ytkeheickaogpiaa
namespace Go.Proofs.Ytkeheickaogpiaa
open Go.RowKit

theorem i64_dif (a b : Int) (h0 : -9223372036854775808 ≤ a - b) (h1 : a - b < 9223372036854775808) : IntKind.i64.wrap (a - b) = a - b := IntWalk.i64_in _ (by omega)

theorem div_any (b : Nat) (a c : Int) (x y : Nat) (hx : a = x) (hy : c = y) (lx : x < 256) (ly : y < 256) (hy0 : y ≠ 0) (w : World) (hF : FieldAt w b) :
    Calls Try.prog 92 #[.pointer (some ⟨b, 0, none⟩), .int .u8 a, .int .u8 c] w fun e w' => e = .returned (.tuple #[.int .u8 (gdivN x y), .int .i64 0]) ∧ ∃ k, w' = w.drewN k := by
  subst hx hy
  have g1 : ((y : Int) == 0) = false := beq_eq_false_iff_ne.2 (by omega)
  by_cases h0 : x = 0
  · subst h0
    have hr : gdivN 0 y = 0 := rfl
    rw [hr]
    clear hr
    go_enter Try.func92, Try.ntmps92
    go_wp2
    go_ret2
    exact ⟨rfl, 0, rfl⟩
  have hr : gdivN x y = gE ((gL x + 255 - gL y) % 255) := by unfold gdivN; rw [if_neg h0]
  rw [hr]
  have cx := hF.logCell x lx
  have cy := hF.logCell y ly
  have bx := gL_lt x lx
  have bY := gL_lt y ly
  have HF := Lib.hid hF
  clear hF hr
  have g0 : ((x : Int) == 0) = false := beq_eq_false_iff_ne.2 (by omega)
  have i0 : (0 : Int) ≤ (x : Int) := by omega
  have i1 : (x : Int) < 256 := by omega
  have i2 : (0 : Int) ≤ (y : Int) := by omega
  have i3 : (y : Int) < 256 := by omega
  have hw := i64_dif (gL x) (gL y) (by omega) (by omega)
  go_enter Try.func92, Try.ntmps92
  go_wp2_with fail
  go_quiet ((go_at_call 72; exact Calls.quiet_of (exp_any b _ ((gL x + 255 - gL y) % 255) (by omega) _ (HF.out.drewN _))))
  clear hw
  go_wp2
  go_ret2
  exact ⟨rfl, _, rfl⟩
theorem div_zero (p : Value) (a : Int) (w : World) :
    Calls Try.prog 92 #[p, .int .u8 a, .int .u8 0] w fun e w' => e = .returned (.tuple #[.int .u8 0, .int .i64 16]) ∧ ∃ k, w' = w.drewN k := by
  go_enter Try.func92, Try.ntmps92
  go_wp2
  go_ret2
  exact ⟨rfl, 0, rfl⟩
theorem inv_any (b : Nat) (c : Int) (y : Nat) (hy : c = y) (ly : y < 256) (hy0 : y ≠ 0) (w : World) (hF : FieldAt w b) :
    Calls Try.prog 78 #[.pointer (some ⟨b, 0, none⟩), .int .u8 c] w fun e w' => e = .returned (.tuple #[.int .u8 (gdivN 1 y), .int .i64 0]) ∧ ∃ k, w' = w.drewN k := by
  have HF := Lib.hid hF
  have HY := Lib.hid hy
  clear hF hy
  go_enter Try.func78, Try.ntmps78
  go_wp2_with fail
  refine (div_any b 1 _ 1 y rfl HY.out (by omega) ly hy0 _ HF.out).mono ?_
  rintro e w2 ⟨rfl, k, rfl⟩
  go_wp2
  go_ret2
  exact ⟨rfl, _, rfl⟩
end Go.Proofs.Ytkeheickaogpiaa
