/- Several texts in one: BitM BitM2 BitW BitW32 BitQ BitR BitG BitC BitO BitX BitDf BitL. -/
import Derived.Test.YtkeheickaogpiaaRows
import Derived.WalkKit
import Derived.WalkSpells
import Derived.WalkLawsBesides
import Derived.Lib.Hide
import Derived.Test.YtkeheickaogpiaaGfA
import Derived.Test.YtkeheickaogpiaaRfA
import Derived.Shelf.Abstract
import Derived.OwnWalkIn
import Derived.TacticsInMore
import Derived.LoopNIn
import Derived.LoopIn
import Derived.Deep.QuietTactic
import Derived.BigQuiet
import Derived.RegionIn
import Derived.Stop.RegionWithIn
namespace Go.Proofs.Ytkeheickaogpiaa

/-- How many ones, with as many steps as there may be bits. -/
def pcTo : Nat → Nat → Nat
  | 0, _ => 0
  | k + 1, n => n % 2 + pcTo k (n / 2)
/-- How many ones a number below 2^64 has. -/
def pc (n : Nat) : Nat := pcTo 64 n
theorem pcTo_zero (k : Nat) : pcTo k 0 = 0 := by
  induction k with
  | zero => rfl
  | succ k ih => rw [pcTo]; simpa using ih
theorem pcTo_more (k : Nat) : ∀ n, n < 2 ^ k → ∀ d, pcTo (k + d) n = pcTo k n := by
  induction k with
  | zero =>
    intro n hn d
    obtain rfl : n = 0 := by omega
    rw [pcTo_zero, pcTo_zero]
  | succ k ih =>
    intro n hn d
    rw [show k + 1 + d = (k + d) + 1 from by omega, pcTo, pcTo, ih (n / 2) (by rw [Nat.pow_succ] at hn; omega) d]
theorem pcTo_eq (k : Nat) (n : Nat) (hn : n < 2 ^ k) (hk : k ≤ 64) : pcTo k n = pc n := by
  have := pcTo_more k n hn (64 - k)
  rw [show k + (64 - k) = 64 from by omega] at this
  exact this.symm
theorem pc_step (n : Nat) (hn : n < 2 ^ 64) : pc n = n % 2 + pc (n / 2) := by
  have h := pcTo_more 63 (n / 2) (by omega) 1
  show n % 2 + pcTo 63 (n / 2) = n % 2 + pcTo 64 (n / 2)
  rw [h]
theorem pc_zero : pc 0 = 0 := pcTo_zero 64
theorem pcTo_le (k n : Nat) : pcTo k n ≤ k := by
  induction k generalizing n with
  | zero => exact Nat.le_refl 0
  | succ k ih => rw [pcTo]; have := ih (n / 2); omega
theorem pc_le (n : Nat) : pc n ≤ 64 := pcTo_le 64 n

theorem and_half (a b : Nat) : (a &&& b) / 2 = (a / 2) &&& (b / 2) := by
  have := @Nat.shiftRight_and_distrib 1 a b
  simpa [Nat.shiftRight_eq_div_pow] using this
theorem xor_half (a b : Nat) : (a ^^^ b) / 2 = (a / 2) ^^^ (b / 2) := by
  have := @Nat.shiftRight_xor_distrib 1 a b
  simpa [Nat.shiftRight_eq_div_pow] using this
theorem and_odd (a b : Nat) : (a &&& b) % 2 = (a % 2) * (b % 2) := by
  have h := @Nat.and_mod_two_pow a b 1
  rw [Nat.pow_one] at h
  rw [h]
  rcases Nat.mod_two_eq_zero_or_one a with ha | ha <;> rcases Nat.mod_two_eq_zero_or_one b with hb | hb <;> rw [ha, hb] <;> rfl
theorem xor_odd (a b : Nat) : (a ^^^ b) % 2 = (a % 2 + b % 2) % 2 := by
  have h := @Nat.xor_mod_two_pow a b 1
  rw [Nat.pow_one] at h
  rw [h]
  rcases Nat.mod_two_eq_zero_or_one a with ha | ha <;> rcases Nat.mod_two_eq_zero_or_one b with hb | hb <;> rw [ha, hb] <;> rfl
theorem pcTo_and_pred (k : Nat) : ∀ x, 0 < x → x < 2 ^ k → pcTo k x = pcTo k (x &&& (x - 1)) + 1 := by
  induction k with
  | zero => intro x h0 h; omega
  | succ k ih =>
    intro x h0 h
    rw [pcTo, pcTo, and_half, and_odd]
    rw [Nat.pow_succ] at h
    rcases Nat.mod_two_eq_zero_or_one x with hx | hx
    · have h1 : (x - 1) / 2 = x / 2 - 1 := by omega
      rw [h1, hx, Nat.zero_mul, Nat.zero_add, Nat.zero_add, ih (x / 2) (by omega) (by omega)]
    · have h1 : (x - 1) / 2 = x / 2 := by omega
      have h2 : (x - 1) % 2 = 0 := by omega
      rw [h1, h2, hx, Nat.and_self]
      omega
theorem pc_and_pred (x : Nat) (h0 : 0 < x) (h : x < 2 ^ 64) : pc x = pc (x &&& (x - 1)) + 1 := pcTo_and_pred 64 x h0 h
/-- The places of the ones, counted from i, with as many steps as there may be bits. -/
def onesTo : Nat → Nat → Nat → List Nat
  | 0, _, _ => []
  | k + 1, i, x => if x % 2 = 1 then i :: onesTo k (i + 1) (x / 2) else onesTo k (i + 1) (x / 2)
theorem onesTo_zero (k i : Nat) : onesTo k i 0 = [] := by
  induction k generalizing i with
  | zero => rfl
  | succ k ih => rw [onesTo, if_neg (by omega)]; exact ih (i + 1)
/-- Each place is at least i, less than i + k, and holds a one. -/
theorem onesTo_mem (k : Nat) : ∀ i x p, p ∈ onesTo k i x → i ≤ p ∧ p < i + k ∧ x / 2 ^ (p - i) % 2 = 1 := by
  induction k with
  | zero => intro i x p h; cases h
  | succ k ih =>
    intro i x p h
    have rest : p ∈ onesTo k (i + 1) (x / 2) → i ≤ p ∧ p < i + (k + 1) ∧ x / 2 ^ (p - i) % 2 = 1 := by
      intro h
      obtain ⟨h1, h2, h3⟩ := ih _ _ _ h
      refine ⟨by omega, by omega, ?_⟩
      rw [show p - i = (p - (i + 1)) + 1 from by omega, Nat.pow_succ, Nat.mul_comm, ← Nat.div_div_eq_div_mul]
      exact h3
    rw [onesTo] at h
    split at h
    · rename_i hx
      rcases List.mem_cons.1 h with rfl | h
      · refine ⟨Nat.le_refl _, by omega, ?_⟩
        rw [Nat.sub_self, Nat.pow_zero, Nat.div_one]; exact hx
      · exact rest h
    · exact rest h
def ones (x : Nat) : List Nat := onesTo 64 0 x
end Go.Proofs.Ytkeheickaogpiaa
namespace Go.Proofs.Ytkeheickaogpiaa
/-- Of the m numbers from x on those with k ones. -/
def chTo : Nat → Nat → Nat → List Nat
  | 0, _, _ => []
  | m + 1, x, k => if pc x = k then x :: chTo m (x + 1) k else chTo m (x + 1) k
def choose (n k : Nat) : List Nat := chTo (2 ^ n) 0 k
theorem chTo_mem (m : Nat) : ∀ x k y, y ∈ chTo m x k → x ≤ y ∧ y < x + m ∧ pc y = k := by
  induction m with
  | zero => intro x k y h; cases h
  | succ m ih =>
    intro x k y h
    rw [chTo] at h
    have rest : y ∈ chTo m (x + 1) k → x ≤ y ∧ y < x + (m + 1) ∧ pc y = k := fun h => by
      have := ih _ _ _ h
      exact ⟨by omega, by omega, this.2.2⟩
    split at h
    · rename_i hp
      rcases List.mem_cons.1 h with rfl | h
      · exact ⟨Nat.le_refl _, by omega, hp⟩
      · exact rest h
    · exact rest h
end Go.Proofs.Ytkeheickaogpiaa
namespace Go.Proofs.Ytkeheickaogpiaa
open Go.RowKit

theorem ret_intB {k : IntKind} {a b : Int} (h : a = b) : Ending.returned (.int k a) = .returned (.int k b) := by rw [h]

set_option maxRecDepth 100000 in
theorem weight64 (a : Int) (x : Nat) (hx : a = x) (lx : x < 18446744073709551616) (w : World) :
    Calls Try.prog 88 #[.int .u64 a] w fun e w' => e = .returned (.int .i64 (pc x : Nat)) ∧ w = w' := by
  subst hx
  go_enter Try.func88, Try.ntmps88
  go_wp2
  go_loop [0, 3] (fun y n => ∃ z c : Nat, z < 18446744073709551616 ∧ c ≤ 64 ∧ y = .int .u64 z ∧ n = .int .i64 c ∧ c + pc z = pc x) (fun _ n => 65 - (intOf n).toNat)
  case atStart => exact ⟨x, 0, lx, by omega, rfl, rfl, by omega⟩
  case round =>
    obtain ⟨z, c, lz, lc, rfl, rfl, hs⟩ := hrel
    have HS := Lib.hid hs
    clear hs
    by_cases h0 : z = 0
    · subst h0
      go_wp2
      go_ret
      exact ⟨ret_intB (by have h1 := HS.out; rw [pc_zero] at h1; omega), rfl⟩
    · have g0 : ((z : Int) != 0) = true := by rw [bne_iff_ne]; omega
      have hle : z &&& (z - 1) ≤ z := Nat.and_le_left
      have hand : bits .and .u64 (z : Int) ((z : Int) - 1) = ((z &&& (z - 1) : Nat) : Int) := by
        rw [show (z : Int) - 1 = ((z - 1 : Nat) : Int) from by omega]
        exact u64_and_nat z (z - 1) (by omega) (by omega)
      have hpc := pc_and_pred z (by omega) (by omega)
      have hp0 := pc_le x
      have HP := Lib.hid hpc
      have HP0 := Lib.hid hp0
      have l1 : 1 ≤ z := by omega
      clear hpc hp0
      go_wp2
      go_round
      case rel => exact ⟨z &&& (z - 1), c + 1, by omega, by have := HS.out; have := HP.out; have := HP0.out; omega, rfl, by go_num, by have := HS.out; have := HP.out; omega⟩
      case measure => have := HS.out; have := HP.out; have := HP0.out; simp [intOf]; omega
set_option maxRecDepth 100000 in
theorem weight8 (a : Int) (x : Nat) (hx : a = x) (lx : x < 256) (w : World) :
    Calls Try.prog 97 #[.int .u8 a] w fun e w' => e = .returned (.int .i64 (pc x : Nat)) ∧ w = w' := by
  subst hx
  go_enter Try.func97, Try.ntmps97
  go_wp2
  go_loop [0, 3] (fun y n => ∃ z c : Nat, z < 256 ∧ c ≤ 64 ∧ y = .int .u8 z ∧ n = .int .i64 c ∧ c + pc z = pc x) (fun _ n => 65 - (intOf n).toNat)
  case atStart => exact ⟨x, 0, lx, by omega, rfl, rfl, by omega⟩
  case round =>
    obtain ⟨z, c, lz, lc, rfl, rfl, hs⟩ := hrel
    have HS := Lib.hid hs
    clear hs
    by_cases h0 : z = 0
    · subst h0
      go_wp2
      go_ret
      exact ⟨ret_intB (by have h1 := HS.out; rw [pc_zero] at h1; omega), rfl⟩
    · have g0 : ((z : Int) != 0) = true := by rw [bne_iff_ne]; omega
      have hle : z &&& (z - 1) ≤ z := Nat.and_le_left
      have hand : bits .and .u8 (z : Int) ((z : Int) - 1) = ((z &&& (z - 1) : Nat) : Int) := by
        rw [show (z : Int) - 1 = ((z - 1 : Nat) : Int) from by omega]
        exact u8_and_nat z (z - 1) (by omega) (by omega)
      have hpc := pc_and_pred z (by omega) (by omega)
      have hp0 := pc_le x
      have HP := Lib.hid hpc
      have HP0 := Lib.hid hp0
      have l1 : 1 ≤ z := by omega
      clear hpc hp0
      go_wp2
      go_round
      case rel => exact ⟨z &&& (z - 1), c + 1, by omega, by have := HS.out; have := HP.out; have := HP0.out; omega, rfl, by go_num, by have := HS.out; have := HP.out; omega⟩
      case measure => have := HS.out; have := HP.out; have := HP0.out; simp [intOf]; omega

end Go.Proofs.Ytkeheickaogpiaa
namespace Go.Proofs.Ytkeheickaogpiaa
open Go.RowKit

set_option maxRecDepth 100000 in
theorem weight32 (a : Int) (x : Nat) (hx : a = x) (lx : x < 4294967296) (w : World) :
    Calls Try.prog 75 #[.int .u32 a] w fun e w' => e = .returned (.int .i64 (pc x : Nat)) ∧ w = w' := by
  subst hx
  go_enter Try.func75, Try.ntmps75
  go_wp2
  go_loop [0, 3] (fun y n => ∃ z c : Nat, z < 4294967296 ∧ c ≤ 64 ∧ y = .int .u32 z ∧ n = .int .i64 c ∧ c + pc z = pc x) (fun _ n => 65 - (intOf n).toNat)
  case atStart => exact ⟨x, 0, lx, by omega, rfl, rfl, by omega⟩
  case round =>
    obtain ⟨z, c, lz, lc, rfl, rfl, hs⟩ := hrel
    have HS := Lib.hid hs
    clear hs
    by_cases h0 : z = 0
    · subst h0
      go_wp2
      go_ret
      exact ⟨ret_intB (by have h1 := HS.out; rw [pc_zero] at h1; omega), rfl⟩
    · have g0 : ((z : Int) != 0) = true := by rw [bne_iff_ne]; omega
      have hle : z &&& (z - 1) ≤ z := Nat.and_le_left
      have hand : bits .and .u32 (z : Int) ((z : Int) - 1) = ((z &&& (z - 1) : Nat) : Int) := by
        rw [show (z : Int) - 1 = ((z - 1 : Nat) : Int) from by omega]
        exact u32_and_nat z (z - 1) (by omega) (by omega)
      have hpc := pc_and_pred z (by omega) (by omega)
      have hp0 := pc_le x
      have HP := Lib.hid hpc
      have HP0 := Lib.hid hp0
      have l1 : 1 ≤ z := by omega
      clear hpc hp0
      go_wp2
      go_round
      case rel => exact ⟨z &&& (z - 1), c + 1, by omega, by have := HS.out; have := HP.out; have := HP0.out; omega, rfl, by go_num, by have := HS.out; have := HP.out; omega⟩
      case measure => have := HS.out; have := HP.out; have := HP0.out; simp [intOf]; omega
end Go.Proofs.Ytkeheickaogpiaa
namespace Go.Proofs.Ytkeheickaogpiaa
open Go.RowKit

/-- The reference's weight. -/
theorem refWeight (a : Int) (x : Nat) (hx : a = x) (lx : x < 18446744073709551616) (w : World) :
    Calls Try.prog 36 #[.int .u64 a] w fun e w' => e = .returned (.int .i64 (pc x : Nat)) ∧ w = w' := by
  subst hx
  go_enter Try.func36, Try.ntmps36
  go_wp2
  go_loop [0, 3] (fun y n => ∃ z c : Nat, z < 18446744073709551616 ∧ y = .int .u64 z ∧ n = .int .i64 c ∧ c + pc z = pc x) (fun y _ => (intOf y).toNat)
  case atStart => exact ⟨x, 0, lx, rfl, rfl, by omega⟩
  case round =>
    obtain ⟨z, c, lz, rfl, rfl, hs⟩ := hrel
    have hc : c ≤ 64 := by have := pc_le x; omega
    have HS := Lib.hid hs
    clear hs
    by_cases h0 : z = 0
    · subst h0
      go_wp2
      go_ret
      exact ⟨ret_intB (by have h1 := HS.out; rw [pc_zero] at h1; omega), rfl⟩
    · have hp := pc_step z lz
      have HP := Lib.hid hp
      have l1 : 0 < z := by omega
      clear hp
      go_wp2
      go_round
      case rel => exact ⟨z / 2, c + z % 2, by omega, by go_num, by go_num, by have := HS.out; have := HP.out; omega⟩
      case measure => simp [intOf]; omega
end Go.Proofs.Ytkeheickaogpiaa
namespace Go.Proofs.Ytkeheickaogpiaa
open Go.RowKit

end Go.Proofs.Ytkeheickaogpiaa
namespace Go.Proofs.Ytkeheickaogpiaa
open Go.RowKit

theorem i64_and7 (p : Nat) (h : p < 9223372036854775808) : bits .and .i64 (p : Int) 7 = ((p % 8 : Nat) : Int) := by
  have h64 : ∀ c : Nat, c < 9223372036854775808 → (BitVec.ofInt 64 (c : Int)).toNat = c := by
    intro c hc
    rw [BitVec.ofInt_natCast, BitVec.toNat_ofNat]; exact Nat.mod_eq_of_lt (by omega)
  show IntKind.i64.wrap ((BitVec.ofInt 64 (p : Int) &&& BitVec.ofInt 64 ((7 : Nat) : Int)).toNat : Int) = _
  rw [BitVec.toNat_and, h64 _ h, h64 7 (by omega), show p &&& 7 = p % 8 from Nat.and_two_pow_sub_one_eq_mod p 3]
  rw [IntKind.wrap_i64]; omega

end Go.Proofs.Ytkeheickaogpiaa
namespace Go.Proofs.Ytkeheickaogpiaa
open Go.RowKit Go.Shelf
attribute [local go_sem] Oper.semAt_some

theorem drop_cons_getC {α : Type} {xs : List α} {j : Nat} {y : α} {ys : List α} (h : xs.drop j = y :: ys) : xs[j]? = some y ∧ xs.drop (j + 1) = ys ∧ j < xs.length := by
  have h1 : (xs.drop j)[0]? = some y := by rw [h]; rfl
  rw [List.getElem?_drop, Nat.add_zero] at h1
  have hl : j < xs.length := (List.getElem?_eq_some_iff.1 h1).1
  refine ⟨h1, ?_, hl⟩
  rw [List.drop_eq_getElem_cons hl] at h
  exact (List.cons.inj h).2
theorem Keep.cellC {K : Nat → Prop} {W W' : World} (h : Keep K W W') {p : Addr} (hp : K p.block) {v : Value} (hc : W.cell? p = some v) : W'.cell? p = some v := by
  rw [World.cell?_of_block (h.same _ hp)]; exact hc

/-- j words have come, and those from x on are left. -/
def ChS (n k T x j : Nat) : Prop := j ≤ (choose n k).length ∧ (choose n k).drop j = chTo (T - x) x k

theorem wide8 (w : World) : Calls Try.prog 87 #[] w fun e w' => e = .returned (.int .i64 8) ∧ w = w' := by
  have h8 : pc 255 = 8 := by decide +kernel
  go_enter Try.func87, Try.ntmps87
  go_wp2_with fail
  refine (weight8 255 255 rfl (by omega) _).mono ?_
  rintro e w2 ⟨rfl, rfl⟩
  go_wp2
  go_ret
  exact ⟨rfl, rfl⟩
theorem choose8_any (n k : Int) (w : World) :
    Calls Try.prog 70 #[.int .i64 n, .int .i64 k] w fun e w' =>
      e = .returned (.func (.func 86) #[] #[.pointer (some ⟨w.heap.size + 1, 0, none⟩), .pointer (some ⟨w.heap.size, 0, none⟩)]) ∧
      w' = (w.alloc (.cells #[.int .i64 n] 3)).alloc (.cells #[.int .i64 k] 3) := by
  go_enter Try.func70, Try.ntmps70
  go_wp2
  go_ret
  exact ⟨rfl, rfl⟩

set_option maxRecDepth 100000 in
set_option maxHeartbeats 1000000 in
theorem choose8_iter (m : Nat) (h1 : 1 ≤ m) (bn bk n k : Nat) (hk : k ≤ n) (hn : n ≤ 8) :
    Iter Fence.wide m Try.prog 86 #[.pointer (some ⟨bk, 0, none⟩), .pointer (some ⟨bn, 0, none⟩)]
      (fun p : Nat => #[.int .u8 (p : Int)]) (choose n k) (fun _ => False) (fun c => c = bn ∨ c = bk)
      (fun W => W.cell? ⟨bn, 0, none⟩ = some (.int .i64 n) ∧ W.cell? ⟨bk, 0, none⟩ = some (.int .i64 k)) := by
  intro l J Jx W hSt hJ hJx hY h0
  obtain ⟨s1, s2⟩ := hSt
  have HY := Lib.hid hY
  have HJ := Lib.hid hJ
  have H0 := Lib.hid h0
  clear hY hJ hJx h0
  have q0 : decide ((k : Int) < 0) = false := by simp
  have q1 : decide (n < k) = false := by simp; omega
  have q2 : decide ((8 : Int) < (n : Int)) = false := by simp; omega
  refine callsIn_of_wp Try.func86 rfl trivial ?_ rfl
  simp only [Try.ntmps86, List.size_toArray, List.length_cons, List.length_nil, Nat.reduceAdd, Nat.reduceSub, Array.replicate_succ, Array.replicate_zero, List.push_toArray, List.append_toArray, List.nil_append, List.cons_append]
  gi_wp2
  refine wpIn_wide.2 ?_
  go_quiet ((go_at_call 87; exact Calls.quiet_of_same ((wide8 _).mono fun _ _ h => ⟨h.1, h.2.symm⟩)))
  clear q0 q1 q2
  have hTl : 2 ^ n ≤ 2 ^ 8 := Nat.pow_le_pow_right (n := 2) (j := 8) (by omega) (by omega)
  obtain ⟨T, hT⟩ : ∃ T, 2 ^ n = T := ⟨_, rfl⟩
  rw [hT] at hTl
  have hw : IntKind.u64.wrap ((2 : Int) ^ n) = (T : Int) := by
    have : ((2 : Int) ^ n) = ((2 ^ n : Nat) : Int) := by simp
    rw [this, hT]
    exact IntWalk.u64_in _ (by omega)
  have HT := Lib.hid hT
  clear hT
  gi_wp2
  clear hw
  gi_loopw [21] (fun i wr => ∃ x j : Nat, x ≤ T ∧ i = .int .u64 x ∧ J j wr ∧ Keep (fun c => c = bn ∨ c = bk) W wr ∧ ChS n k T x j) (fun i _ => T - (intOf i).toNat)
  case atStart => exact ⟨0, 0, Nat.zero_le _, rfl, HJ.out _ _ _ H0.out (Turn.drewN _ _ _), ⟨Nat.le_refl _, fun _ _ => rfl⟩, Nat.zero_le _, by rw [List.drop_zero, choose, HT.out, Nat.sub_zero]⟩
  case round =>
    obtain ⟨x, j, hx, rfl, hJj, hKp, hcs⟩ := hrel
    obtain ⟨hj, hd⟩ : j ≤ (choose n k).length ∧ (choose n k).drop j = chTo (T - x) x k := hcs
    by_cases hlt : x < T
    · have t1 := hKp.cellC (p := ⟨bk, 0, none⟩) (.inr rfl) s2
      have hpl := pc_le x
      rw [show T - x = (T - (x + 1)) + 1 from by omega, chTo] at hd
      by_cases hpk : pc x = k
      · rw [if_pos hpk] at hd
        obtain ⟨hg, hd2, hj2⟩ := drop_cons_getC hd
        obtain ⟨fn, tmps, assign, body, hy, hR⟩ := HY.out j x wr.drew hg (HJ.out _ _ _ hJj (Turn.drewN _ _ 1))
        have hR2 : RoundIn Fence.wide (m - 1) Try.prog l fn tmps assign body wr.drew (fun e W' => ∃ b : Bool, e = .returned (.bool b) ∧ ((b = true ∧ J (j + 1) W' ∧ Keep (fun c => c = bn ∨ c = bk) wr.drew W') ∨ (b = false ∧ Jx (j + 1) W'))) :=
          hR.mono (fun e W' h => h.elim (fun h => ⟨true, h.1, .inl ⟨rfl, h.2⟩⟩) (fun h => ⟨false, h.1, .inr ⟨rfl, h.2⟩⟩))
        have hb : ((pc x : Int) == (k : Int)) = true := by rw [hpk]; exact beq_self_eq_true _
        have hwx : IntKind.u8.wrap (x : Int) = x := IntWalk.u8_in _ (by omega)
        have HR2 := Lib.hid hR2
        have HD := Lib.hid hd2
        have HK := Lib.hid hKp
        have HP := Lib.hid hpk
        have HJ1 := Lib.hid hj
        have HJ2 := Lib.hid hj2
        clear hd hd2 hg hJj hKp hpk hR hR2 hj hj2
        gi_wp2
        gi_region_with (first | (refine ⟨trivial, ?_⟩; gi_at_call 88; refine (callsIn_wide.2 (weight64 _ x rfl (by omega) _)).mono ?_; rintro e w2 ⟨rfl, rfl⟩) | (refine HR2.out.mono ?_; rintro e W3 ⟨b, rfl, hp⟩))
        all_goals
          clear hy
          simp only [Act.put, List.getElem_toArray, List.getElem_cons_succ, List.getElem_cons_zero, Array.setIfInBounds, List.size_toArray, List.length_cons, List.length_nil, Nat.reduceAdd, Nat.reduceLT, dif_pos, List.set_toArray, List.set_cons_succ, List.set_cons_zero]
          rcases hp with ⟨rfl, hJ3, hk3⟩ | ⟨rfl, hJx3⟩
          · have hk4 : Keep (fun c => c = bn ∨ c = bk) W W3 := HK.out.trans (Keep.trans (⟨Nat.le_refl _, fun _ _ => rfl⟩ : Keep (fun c => c = bn ∨ c = bk) wr wr.drew) hk3)
            have HK4 := Lib.hid hk4
            have HJ3 := Lib.hid hJ3
            clear hk3 hk4 hJ3 t1
            simp only [Bool.not_true]
            gi_wp2
            go_roundw
            case rel => exact ⟨x + 1, j + 1, by omega, by go_num, HJ3.out, HK4.out, HJ2.out, by rw [HD.out]⟩
            case measure => simp [intOf]; omega
          · have HJX3 := Lib.hid hJx3
            clear hJx3 t1
            simp only [Bool.not_false]
            gi_wp2
            refine bodyPost_ret (results_none rfl _ _ _) rfl ?_
            exact ⟨⟨_, rfl⟩, .inr ⟨j, HJ2.out, HJX3.out⟩⟩
      · rw [if_neg hpk] at hd
        have hb : ((pc x : Int) == (k : Int)) = false := by rw [beq_eq_false_iff_ne]; omega
        have HD := Lib.hid hd
        have HK := Lib.hid hKp
        have HP := Lib.hid hpk
        have HJj := Lib.hid hJj
        have HJ1 := Lib.hid hj
        clear hd hJj hKp hpk hj
        gi_wp2
        refine wpIn_wide.2 ?_
        go_quiet ((go_at_call 88; exact Calls.quiet_of_same ((weight64 _ x rfl (by omega) _).mono fun _ _ h => ⟨h.1, h.2.symm⟩)))
        clear t1
        gi_wp2
        go_roundw
        case rel => exact ⟨x + 1, j, by omega, by go_num, HJ.out _ _ _ HJj.out (Turn.drewN _ _ _), HK.out.trans ⟨Nat.le_refl _, fun _ _ => rfl⟩, HJ1.out, by rw [HD.out]⟩
        case measure => simp [intOf]; omega
    · obtain rfl : x = T := by omega
      rw [Nat.sub_self, chTo] at hd
      have hlen : (choose n k).length ≤ j := List.drop_eq_nil_iff.1 hd
      obtain rfl : j = (choose n k).length := by omega
      gi_wp2
      go_end0
      exact ⟨⟨_, rfl⟩, .inl hJj⟩
end Go.Proofs.Ytkeheickaogpiaa
namespace Go.Proofs.Ytkeheickaogpiaa
open Go.RowKit Go.Shelf
attribute [local go_sem] Oper.semAt_some

theorem ones64_any (a : Int) (w : World) :
    Calls Try.prog 54 #[.int .u64 a] w fun e w' =>
      e = .returned (.func (.func 76) #[] #[.pointer (some ⟨w.heap.size, 0, none⟩)]) ∧ w' = w.alloc (.cells #[.int .u64 a] 54) := by
  go_enter Try.func54, Try.ntmps54
  go_wp2
  go_ret
  exact ⟨rfl, rfl⟩

theorem drop_cons_get {α : Type} {xs : List α} {j : Nat} {y : α} {ys : List α} (h : xs.drop j = y :: ys) : xs[j]? = some y ∧ xs.drop (j + 1) = ys ∧ j < xs.length := by
  have h1 : (xs.drop j)[0]? = some y := by rw [h]; rfl
  rw [List.getElem?_drop, Nat.add_zero] at h1
  have hl : j < xs.length := (List.getElem?_eq_some_iff.1 h1).1
  refine ⟨h1, ?_, hl⟩
  rw [List.drop_eq_getElem_cons hl] at h
  exact (List.cons.inj h).2
theorem u64_and1 (z : Nat) (h : z < 18446744073709551616) : bits .and .u64 (z : Int) 1 = ((z % 2 : Nat) : Int) := by
  have := u64_and_nat z 1 h (by omega)
  rw [Nat.and_one_is_mod] at this
  exact this

set_option maxRecDepth 100000 in
set_option maxHeartbeats 1000000 in
theorem ones64_iter (n : Nat) (h1 : 1 ≤ n) (bx x : Nat) (lx : x < 18446744073709551616) :
    Iter Fence.wide n Try.prog 76 #[.pointer (some ⟨bx, 0, none⟩)]
      (fun p : Nat => #[.int .i64 (p : Int)]) (ones x) (fun c => c = bx) (fun c => c = bx)
      (fun W => Blk W bx 54 #[.int .u64 (x : Int)]) := by
  intro l J Jx W hSt hJ hJx hY h0
  have HY := Lib.hid hY
  have HJ := Lib.hid hJ
  have HJX := Lib.hid hJx
  have H0 := Lib.hid h0
  have HS := Lib.hid hSt
  clear hY hJ hJx h0 hSt
  refine callsIn_of_wp Try.func76 rfl trivial ?_ rfl
  simp only [Try.ntmps76, List.size_toArray, List.length_cons, List.length_nil, Nat.reduceAdd, Nat.reduceSub, Array.replicate_succ, Array.replicate_zero, List.push_toArray, List.append_toArray, List.nil_append, List.cons_append]
  gi_wp2
  gi_loopw [3] (fun i wr => ∃ k r z j : Nat, k + r = 64 ∧ i = .int .i64 k ∧ z < 2 ^ r ∧ Blk wr bx 54 #[.int .u64 (z : Int)] ∧ J j wr ∧ j ≤ (ones x).length ∧ (ones x).drop j = onesTo r k z) (fun i _ => 64 - (intOf i).toNat)
  case atStart => exact ⟨0, 64, x, 0, rfl, rfl, lx, HS.out, H0.out, Nat.zero_le _, by rw [List.drop_zero]; rfl⟩
  case round =>
    obtain ⟨k, r, z, j, hkr, rfl, hz, hb, hJj, hj, hd⟩ := hrel
    have hc := hb.cell 0
    have hf := hb.frozen 0
    simp only [List.getElem?_toArray, List.getElem?_cons_zero] at hc
    by_cases h0 : z = 0
    · subst h0
      rw [onesTo_zero] at hd
      have hlen : (ones x).length ≤ j := List.drop_eq_nil_iff.1 hd
      obtain rfl : j = (ones x).length := by omega
      have HJJ := Lib.hid hJj
      clear hJj hd hb
      gi_wp2
      go_end0
      exact ⟨⟨_, rfl⟩, .inl HJJ.out⟩
    · have hr0 : r ≠ 0 := by
        intro h
        subst h
        rw [Nat.pow_zero] at hz
        omega
      obtain ⟨r, rfl⟩ : ∃ q, r = q + 1 := ⟨r - 1, by omega⟩
      have hz64 : z < 18446744073709551616 := Nat.lt_of_lt_of_le hz (Nat.pow_le_pow_right (n := 2) (j := 64) (by omega) (by omega))
      have hz2 : z / 2 < 2 ^ r := by rw [Nat.pow_succ] at hz; omega
      have hand := u64_and1 z hz64
      have hz0 : 0 < z := by omega
      have HZ2 := Lib.hid hz2
      clear hz hz2
      rw [onesTo] at hd
      by_cases hodd : z % 2 = 1
      · rw [if_pos hodd] at hd
        obtain ⟨hg, hd2, hj2⟩ := drop_cons_get hd
        obtain ⟨fn, tmps, assign, body, hy, hR⟩ := HY.out j k wr hg hJj
        have hodd2 : ((z : Int) % 2 == 1) = true := by rw [beq_iff_eq]; omega
        have HB := Lib.hid hb
        have HD := Lib.hid hd2
        have HO := Lib.hid hodd
        clear hd hd2 hg hJj hb hodd
        gi_wp2
        refine hR.mono ?_
        rintro e W3 (⟨rfl, hJ3, hk3⟩ | ⟨rfl, hJx3⟩)
        · have hb3 : Blk W3 bx 54 #[.int .u64 (z : Int)] := (hk3.same bx rfl).trans HB.out
          have hc3 := hb3.cell 0
          have hf3 := hb3.frozen 0
          simp only [List.getElem?_toArray, List.getElem?_cons_zero] at hc3
          have HB3 := Lib.hid hb3
          have HJ3 := Lib.hid hJ3
          clear hy hR hb3 hJ3 hk3 hc hf
          gi_wp2
          go_roundw
          case rel => exact ⟨k + 1, r, z / 2, j + 1, by omega, by go_num, HZ2.out, by have h := HB3.out.set_ 0 (.int .u64 ((z : Int) / 2)); simpa using h, HJ.out _ _ _ HJ3.out (Turn.setCell (S := fun c => c = bx) W3 (p := ⟨bx, 0, none⟩) rfl _), by omega, HD.out⟩
          case measure => simp [intOf]; omega
        · gi_wp2
          refine bodyPost_ret (results_none rfl _ _ _) rfl ?_
          exact ⟨⟨_, rfl⟩, .inr ⟨j, hj2, hJx3⟩⟩
      · rw [if_neg hodd] at hd
        have hodd2 : ((z : Int) % 2 == 1) = false := by rw [beq_eq_false_iff_ne]; omega
        have HB := Lib.hid hb
        have HD := Lib.hid hd
        have HO := Lib.hid hodd
        have HJj := Lib.hid hJj
        clear hd hJj hb hodd
        gi_wp2
        refine ⟨fun _ h => (by cases h), ?_⟩
        gi_wp2
        go_roundw
        case rel => exact ⟨k + 1, r, z / 2, j, by omega, by go_num, HZ2.out, by have h := HB.out.set_ 0 (.int .u64 ((z : Int) / 2)); simpa using h, HJ.out _ _ _ HJj.out (Turn.setCell (S := fun c => c = bx) wr (p := ⟨bx, 0, none⟩) rfl _), hj, HD.out⟩
        case measure => simp [intOf]; omega
end Go.Proofs.Ytkeheickaogpiaa
namespace Go.Proofs.Ytkeheickaogpiaa
open Go.RowKit

/-- A list of bytes with bit i turned; beyond it: as it was. -/
def flipI (xs : List UInt8) (i : Int) : List UInt8 := if 0 ≤ i ∧ i.toNat / 8 < xs.length then xs.set (i.toNat / 8) (xs.getD (i.toNat / 8) 0 ^^^ UInt8.ofNat (2 ^ (i.toNat % 8))) else xs
theorem flipI_length (xs : List UInt8) (i : Int) : (flipI xs i).length = xs.length := by unfold flipI; split <;> simp
theorem flipI_out {xs : List UInt8} {i : Int} (h : ¬ (0 ≤ i ∧ i.toNat / 8 < xs.length)) : flipI xs i = xs := if_neg h
theorem flipI_in {xs : List UInt8} {p : Nat} (h : p / 8 < xs.length) : flipI xs (p : Int) = xs.set (p / 8) (xs.getD (p / 8) 0 ^^^ UInt8.ofNat (2 ^ (p % 8))) := by
  unfold flipI; rw [if_pos ⟨by omega, h⟩]; rfl

theorem u8_xorF (a b : UInt8) : bits .xor .u8 (a.toNat : Int) (b.toNat : Int) = ((a ^^^ b).toNat : Int) := by
  have ha := a.toNat_lt
  have hb := b.toNat_lt
  have h8 : ∀ c : Nat, c < 256 → (BitVec.ofInt 8 (c : Int)).toNat = c := by
    intro c hc
    rw [BitVec.ofInt_natCast, BitVec.toNat_ofNat]; exact Nat.mod_eq_of_lt (by omega)
  have hx : a.toNat ^^^ b.toNat < 2 ^ 8 := Nat.xor_lt_two_pow ha hb
  show IntKind.u8.wrap ((BitVec.ofInt 8 (a.toNat : Int) ^^^ BitVec.ofInt 8 (b.toNat : Int)).toNat : Int) = _
  rw [BitVec.toNat_xor, h8 _ ha, h8 _ hb, UInt8.toNat_xor]
  exact IntWalk.u8_in _ (by omega)
end Go.Proofs.Ytkeheickaogpiaa
namespace Go.Proofs.Ytkeheickaogpiaa
open Go.RowKit

/-- The unlike bits of the first k pairs of bytes. -/
def dfB (xs ys : List UInt8) : Nat → Nat
  | 0 => 0
  | k + 1 => dfB xs ys k + pc (xs.getD k 0 ^^^ ys.getD k 0).toNat
def dI (xs ys : List UInt8) : Nat := 8 * (max xs.length ys.length - min xs.length ys.length) + dfB xs ys (min xs.length ys.length)

end Go.Proofs.Ytkeheickaogpiaa
namespace Go.Proofs.Ytkeheickaogpiaa
open Go.RowKit

end Go.Proofs.Ytkeheickaogpiaa
