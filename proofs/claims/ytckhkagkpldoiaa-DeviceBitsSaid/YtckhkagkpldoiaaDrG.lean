/- Places and indices. -/
import Derived.Test.YtckhkagkpldoiaaEeE
import Derived.Test.YtckhkagkpldoiaaGeo
import Derived.WalkKit
import Derived.Sort.CutIn
import Derived.IntWalk
namespace Go.Proofs.Ytckhkagkpldoiaa.E
open Go Go.RowKit Go.Shelf
attribute [local go_sem] Oper.semAt_some
set_option linter.unusedVariables false
set_option linter.unusedSimpArgs false


theorem bin_shl_i64 {P : Program} {T : TypeId} {x y : Operand} {w : World} {yk : IntKind} {a : Int} (n : Nat) (hn : n ≤ 64) (h0 : -9223372036854775808 ≤ a * 2 ^ n) (h1 : a * 2 ^ n ≤ 9223372036854775807) : (sBin .shl T x y (.int .i64 a) (.int yk (n : Int))).run P w = .ok (.int .i64 (a * 2 ^ n)) w := by
  have e : IntKind.i64.wrap (a * 2 ^ n) = a * 2 ^ n := IntWalk.i64_in _ (by omega)
  unfold sBin
  simp only [Sem.run_bind, eqGuard_shl, Sem.run_pure, Result.andThen_ok, binOp_shl, shift_shl_i64 _ _ _ (Int.natCast_nonneg n) (by omega), Int.toNat_natCast, e]
theorem bits_or_add (a b : Nat) (k : Nat) (ha : a % 2 ^ k = 0) (hb : b < 2 ^ k) (h : a + b < 9223372036854775808) : bits .or .i64 (a : Int) (b : Int) = ((a + b : Nat) : Int) := by
  have h2 : ∀ c : Nat, c < 9223372036854775808 → (BitVec.ofInt 64 (c : Int)).toNat = c := by
    intro c hc
    rw [BitVec.ofInt_natCast, BitVec.toNat_ofNat]; exact Nat.mod_eq_of_lt (by omega)
  show IntKind.i64.wrap ((BitVec.ofInt 64 (a : Int) ||| BitVec.ofInt 64 (b : Int)).toNat : Int) = _
  rw [BitVec.toNat_or, h2 a (by omega), h2 b (by omega)]
  have e : a ||| b = a + b := by
    have h3 := Nat.div_add_mod a (2 ^ k)
    rw [ha, Nat.add_zero] at h3
    rw [← h3]
    exact (Nat.two_pow_add_eq_or_of_lt hb (a / 2 ^ k)).symm
  rw [e]
  exact IntWalk.i64_in _ (by omega)
theorem bin_or_add {P : Program} {T : TypeId} {x y : Operand} {w : World} {a b : Int} (k M : Nat) (hM : 2 ^ k = M) (h0 : 0 ≤ a) (ha : a % (M : Int) = 0) (hb0 : 0 ≤ b) (hb : b < (M : Int)) (h : a + b < 9223372036854775808) : (sBin .or T x y (.int .i64 a) (.int .i64 b)).run P w = .ok (.int .i64 (a + b)) w := by
  obtain ⟨m, rfl⟩ := Int.eq_ofNat_of_zero_le h0
  obtain ⟨n, rfl⟩ := Int.eq_ofNat_of_zero_le hb0
  have e := bits_or_add m n k (by rw [hM]; omega) (by rw [hM]; omega) (by omega)
  rw [show ((m : Int) + (n : Int)) = ((m + n : Nat) : Int) by omega, ← e]
  rfl
theorem mask_int (x : Int) (k : Nat) (hk : k ≤ 64) : (((x % 18446744073709551616).toNat % 2 ^ k : Nat) : Int) = x % ((2 ^ k : Nat) : Int) := by
  have hd : ((2 ^ k : Nat) : Int) ∣ 18446744073709551616 := by
    have h : 2 ^ k ∣ 18446744073709551616 := (show (18446744073709551616 : Nat) = 2 ^ 64 by decide) ▸ Nat.pow_dvd_pow 2 hk
    exact Int.natCast_dvd_natCast.2 h
  rw [Int.natCast_emod, Int.toNat_of_nonneg (Int.emod_nonneg _ (by decide)), Int.emod_emod_of_dvd _ hd]
theorem bits_mask (x : Int) (k m : Nat) (hm : 2 ^ k = m) (hk : k ≤ 62) (h1 : 0 < m) (h2 : m ≤ 4611686018427387904) : bits .and .i64 x ((m - 1 : Nat) : Int) = x % (m : Int) := by
  show IntKind.i64.wrap ((BitVec.ofInt 64 x &&& BitVec.ofInt 64 ((m - 1 : Nat) : Int)).toNat : Int) = _
  have e : (BitVec.ofInt 64 ((m - 1 : Nat) : Int)).toNat = 2 ^ k - 1 := by
    rw [BitVec.ofInt_natCast, BitVec.toNat_ofNat, hm]; exact Nat.mod_eq_of_lt (by omega)
  have e2 := mask_int x k (by omega)
  rw [hm] at e2
  rw [BitVec.toNat_and, e, Nat.and_two_pow_sub_one_eq_mod, BitVec.toNat_ofInt, hm]
  rw [show (x % ((2 ^ 64 : Nat) : Int)) = x % 18446744073709551616 from rfl, e2]
  have l0 : 0 ≤ x % (m : Int) := Int.emod_nonneg _ (by omega)
  have l1 : x % (m : Int) < (m : Int) := Int.emod_lt_of_pos _ (by omega)
  exact IntWalk.i64_in _ (by omega)
theorem bin_mask_i64 {P : Program} {T : TypeId} {y z : Operand} {w : World} (x : Int) (k m : Nat) (hm : 2 ^ k = m) (hk : k ≤ 62) (h1 : 0 < m) (h2 : m ≤ 4611686018427387904) : (sBin .and T y z (.int .i64 x) (.int .i64 ((m - 1 : Nat) : Int))).run P w = .ok (.int .i64 (x % (m : Int))) w := by
  rw [← bits_mask x k m hm hk h1 h2]
  rfl
/-- A place's index. -/
def pidx (p0 p1 p2 p3 : Int) : Int := p0 * 2 ^ 20 + p1 * 2 ^ 16 + p2 * 2 ^ 6 + p3
set_option maxRecDepth 100000 in
set_option maxHeartbeats 1000000 in
theorem pindex (p0 p1 p2 p3 : Int) (a0 : 0 ≤ p0) (b0 : p0 < 8) (a1 : 0 ≤ p1) (b1 : p1 < 16) (a2 : 0 ≤ p2) (b2 : p2 < 1024) (a3 : 0 ≤ p3) (b3 : p3 < 64) : Con Try.prog 75 #[.agg #[.int .i64 p0, .int .i64 p1, .int .i64 p2, .int .i64 p3]] [] [] (fun _ => []) (fun _ => .int .i64 (pidx p0 p1 p2 p3)) := by
 refine Con.of (enters_of Try.func75 (by kernel_rfl) rfl) fun w cs HS HH OW => ?_
 refine (callsIn_wide (n := 6)).1 ?_
 refine callsIn_of_wp_marks Try.func75 rfl trivial ?_ rfl
 simp only [Try.ntmps75, eF, Nat.reduceAdd, Nat.reduceSub]
 gi_upto_region 0 with fail
 refine rg (fun q1 => [.m (bx 0),
  .v (.int .i64 0)]) (fun q1 L => L ++ [ob ((q1 0).blk 0) #[.int .i64 p0, .int .i64 p1, .int .i64 p2, .int .i64 p3] 23]) OW ?_
 clear OW; intro q1 _ Wq1 OW; simp only [↓pc, ↓pn, vE, Hint.val, Act.put, eL]
 gi_upto_region 1 with fail
 refine rg (fun q2 => [.v (.pointer (some ⟨(q1 0).blk 0, 0, none⟩)),
  .m (ld 0 (.int .i64 p0)),
  .t (tv (sBin .shl 3 (.tmp 4) (.const (.int .u64 20)) (.int .i64 p0) (.int .u64 20)) (fun _ => bin_shl_i64 20 (by decide) (by omega) (by omega))),
  .v (.pointer (some ⟨(q1 0).blk 0, 1, none⟩)),
  .m (ld 0 (.int .i64 p1)),
  .t (tv (sBin .shl 3 (.tmp 7) (.const (.int .u64 16)) (.int .i64 p1) (.int .u64 16)) (fun _ => bin_shl_i64 16 (by decide) (by omega) (by omega))),
  .t (tv (sBin .or 3 (.tmp 5) (.tmp 8) (.int .i64 (p0 * 2 ^ 20)) (.int .i64 (p1 * 2 ^ 16))) (fun _ => bin_or_add 20 1048576 rfl (by omega) (by omega) (by omega) (by omega) (by omega))),
  .v (.pointer (some ⟨(q1 0).blk 0, 2, none⟩)),
  .m (ld 0 (.int .i64 p2)),
  .t (tv (sBin .shl 3 (.tmp 11) (.const (.int .u64 6)) (.int .i64 p2) (.int .u64 6)) (fun _ => bin_shl_i64 6 (by decide) (by omega) (by omega))),
  .t (tv (sBin .or 3 (.tmp 9) (.tmp 12) (.int .i64 (p0 * 2 ^ 20 + p1 * 2 ^ 16)) (.int .i64 (p2 * 2 ^ 6))) (fun _ => bin_or_add 16 65536 rfl (by omega) (by omega) (by omega) (by omega) (by omega))),
  .v (.pointer (some ⟨(q1 0).blk 0, 3, none⟩)),
  .m (ld 0 (.int .i64 p3)),
  .t (tv (sBin .or 3 (.tmp 13) (.tmp 15) (.int .i64 (p0 * 2 ^ 20 + p1 * 2 ^ 16 + p2 * 2 ^ 6)) (.int .i64 p3)) (fun _ => bin_or_add 6 64 rfl (by omega) (by omega) (by omega) (by omega) (by omega))),
  .v (.int .i64 (pidx p0 p1 p2 p3))]) (fun _ L => L) OW ?_
 clear OW; intro q2 _ Wq2 OW; simp only [↓pc, ↓pn, vE, Hint.val, Act.put, eL]
 gi_wp2
 exact leafE HS HH OW [.t (.int .i64 (pidx p0 p1 p2 p3))] Env.zero [] [] rfl
theorem gholds_bd {r s b m c p0 p1 p2 p3 : Int} (h : gholds r s b m c p0 p1 p2 p3 = true) : (0 ≤ p0 ∧ p0 < 8) ∧ (0 ≤ p1 ∧ p1 < 16) ∧ (0 ≤ p2 ∧ p2 < 1024) ∧ 0 ≤ p3 ∧ p3 < 64 := by
  unfold gholds gbelow gright at h
  simp only [Bool.and_eq_true, decide_eq_true_eq] at h
  obtain ⟨⟨⟨⟨⟨⟨⟨⟨⟨⟨h1, h2⟩, h3⟩, h4⟩, h5⟩, h6⟩, h7⟩, h8⟩, h9⟩, h10⟩, h11⟩ := h
  have := gpower_in h1; have := gpower_in h4; have := gpower_in h5; have := gpower_in h6
  omega
def gindex_0 (r : Int) (s : Int) (b : Int) (m : Int) (c : Int) (p0 : Int) (p1 : Int) (p2 : Int) (p3 : Int) : Int := (bif !(gholds r s b m c p0 p1 p2 p3) then 0 else (pidx p0 p1 p2 p3))
def gindex_1 (r : Int) (s : Int) (b : Int) (m : Int) (c : Int) (p0 : Int) (p1 : Int) (p2 : Int) (p3 : Int) : Int := (bif !(gholds r s b m c p0 p1 p2 p3) then 12 else 0)
set_option maxRecDepth 100000 in
set_option maxHeartbeats 1000000 in
theorem gindex (r s b m c p0 p1 p2 p3 : Int) : Con Try.prog 34 #[.agg #[.int .i64 r, .int .i64 s, .int .i64 b, .int .i64 m, .int .i64 c], .agg #[.int .i64 p0, .int .i64 p1, .int .i64 p2, .int .i64 p3]] [] [] (fun _ => []) (fun _ => .tuple #[.int .i64 (gindex_0 r s b m c p0 p1 p2 p3), .int .i64 (gindex_1 r s b m c p0 p1 p2 p3)]) := by
 refine Con.of (enters_of Try.func34 (by kernel_rfl) rfl) fun w cs HS HH OW => ?_
 refine (callsIn_wide (n := 6)).1 ?_
 refine callsIn_of_wp_marks Try.func34 rfl trivial ?_ rfl
 simp only [Try.ntmps34, eF, Nat.reduceAdd, Nat.reduceSub]
 gi_upto_region 0 with fail
 refine rg (fun q1 => [.m (bx 0),
  .m (bx 1),
  .v (.int .i64 0),
  .v (.int .i64 0)]) (fun q1 L => L ++ [ob ((q1 0).blk 0) #[.int .i64 r, .int .i64 s, .int .i64 b, .int .i64 m, .int .i64 c] 27, ob ((q1 1).blk 0) #[.int .i64 p0, .int .i64 p1, .int .i64 p2, .int .i64 p3] 23]) OW ?_
 clear OW; intro q1 _ Wq1 OW; simp only [↓pc, ↓pn, vE, Hint.val, Act.put, eL]
 gi_upto_region 1 with fail
 refine rg (fun q2 => [.m (ls 0 ([.int .i64 r, .int .i64 s, .int .i64 b, .int .i64 m, .int .i64 c])),
  .m (ls 1 ([.int .i64 p0, .int .i64 p1, .int .i64 p2, .int .i64 p3])),
  .c [] [] (conB (enters_of Try.func62 (by kernel_rfl) rfl) fun w' => (gholds_any r s b m c p0 p1 p2 p3 _)),
  .v (.bool (!(gholds r s b m c p0 p1 p2 p3)))]) (fun _ L => L) OW ?_
 clear OW; intro q2 _ Wq2 OW; simp only [↓pc, ↓pn, vE, Hint.val, Act.put, eL]
 cases hB3 : (!(gholds r s b m c p0 p1 p2 p3))
 case true =>
  gi_upto_region 2 with fail
  refine rg (fun q4 => [.v (.int .i64 0),
   .v (.int .i64 12)]) (fun _ L => L) OW ?_
  clear OW; intro q4 _ Wq4 OW; simp only [↓pc, ↓pn, vE, Hint.val, Act.put, eL]
  gi_wp2
  exact leafE HS HH OW [.t (.int .i64 0), .t (.int .i64 12)] Env.zero [] [] (by (try simp only [gindex_0, gindex_1]); (repeat (first | rw [hB3] | rw [cond_true] | rw [cond_false])); first | rfl | kernel_rfl) (by kernel_rfl) (by (try simp only [gindex_0, gindex_1]); (repeat (first | rw [hB3] | rw [cond_true] | rw [cond_false])); kernel_rfl)
 gi_upto_region 3 with fail
 obtain ⟨⟨i0, j0⟩, ⟨i1, j1⟩, ⟨i2, j2⟩, i3, j3⟩ := gholds_bd (by simpa using hB3)
 refine rg (fun q5 => [.m (ls 1 ([.int .i64 p0, .int .i64 p1, .int .i64 p2, .int .i64 p3])),
  .c [] [] (pindex p0 p1 p2 p3 (by omega) (by omega) (by omega) (by omega) (by omega) (by omega) (by omega) (by omega)),
  .v (.int .i64 (pidx p0 p1 p2 p3)),
  .v (.int .i64 0)]) (fun _ L => L) OW ?_
 clear OW; intro q5 _ Wq5 OW; simp only [↓pc, ↓pn, vE, Hint.val, Act.put, eL]
 gi_wp2
 exact leafE HS HH OW [.t (.int .i64 (pidx p0 p1 p2 p3)), .t (.int .i64 0)] Env.zero [] [] (by (try simp only [gindex_0, gindex_1]); (repeat (first | rw [hB3] | rw [cond_true] | rw [cond_false])); first | rfl | kernel_rfl) (by kernel_rfl) (by (try simp only [gindex_0, gindex_1]); (repeat (first | rw [hB3] | rw [cond_true] | rw [cond_false])); kernel_rfl)
set_option maxRecDepth 100000 in
set_option maxHeartbeats 1000000 in
theorem gplace (i : Int) : Con Try.prog 97 #[.int .i64 i] [] [] (fun _ => []) (fun _ => .agg #[.int .i64 (i / 2 ^ 20), .int .i64 (i / 2 ^ 16 % 16), .int .i64 (i / 2 ^ 6 % 1024), .int .i64 (i % 64)]) := by
 refine Con.of (enters_of Try.func97 (by kernel_rfl) rfl) fun w cs HS HH OW => ?_
 refine (callsIn_wide (n := 6)).1 ?_
 refine callsIn_of_wp_marks Try.func97 rfl trivial ?_ rfl
 simp only [Try.ntmps97, eF, Nat.reduceAdd, Nat.reduceSub]
 gi_upto_region 0 with fail
 refine rg (fun q1 => [.m (al 0)]) (fun q1 L => L ++ [ob ((q1 0).blk 0) #[.int .i64 0, .int .i64 0, .int .i64 0, .int .i64 0] 23]) OW ?_
 clear OW; intro q1 _ Wq1 OW; simp only [↓pc, ↓pn, vE, Hint.val, Act.put, eL]
 gi_upto_region 1 with fail
 refine rg (fun q2 => [.v (.int .i64 i),
  .t (tv (sBin .shr 3 (.tmp 3) (.const (.int .u64 20)) (.int .i64 i) (.int .u64 20)) (fun _ => bin_shr_i64 20 (by decide))),
  .v (.int .i64 i),
  .t (tv (sBin .shr 3 (.tmp 5) (.const (.int .u64 16)) (.int .i64 i) (.int .u64 16)) (fun _ => bin_shr_i64 16 (by decide))),
  .t (tv (sBin .and 3 (.tmp 6) (.const (.int .i64 15)) (.int .i64 (i / 2 ^ 16)) (.int .i64 15)) (fun _ => bin_mask_i64 _ 4 16 (by decide) (by decide) (by decide) (by decide))),
  .v (.int .i64 i),
  .t (tv (sBin .shr 3 (.tmp 8) (.const (.int .u64 6)) (.int .i64 i) (.int .u64 6)) (fun _ => bin_shr_i64 6 (by decide))),
  .t (tv (sBin .and 3 (.tmp 9) (.const (.int .i64 1023)) (.int .i64 (i / 2 ^ 6)) (.int .i64 1023)) (fun _ => bin_mask_i64 _ 10 1024 (by decide) (by decide) (by decide) (by decide))),
  .v (.int .i64 i),
  .t (tv (sBin .and 3 (.tmp 11) (.const (.int .i64 63)) (.int .i64 i) (.int .i64 63)) (fun _ => bin_mask_i64 _ 6 64 (by decide) (by decide) (by decide) (by decide))),
  .v (.agg #[.int .i64 (i / 2 ^ 20), .int .i64 (i / 2 ^ 16 % 16), .int .i64 (i / 2 ^ 6 % 1024), .int .i64 (i % 64)]),
  .m (ss 0)]) (fun q2 L => L.set 0 (ob ((q1 0).blk 0) #[.int .i64 (i / 2 ^ 20), .int .i64 (i / 2 ^ 16 % 16), .int .i64 (i / 2 ^ 6 % 1024), .int .i64 (i % 64)] 23)) OW ?_
 clear OW; intro q2 _ Wq2 OW; simp only [↓pc, ↓pn, vE, Hint.val, Act.put, eL]
 gi_wp2
 exact leafE HS HH OW [.s ([.int .i64 (i / 2 ^ 20), .int .i64 (i / 2 ^ 16 % 16), .int .i64 (i / 2 ^ 6 % 1024), .int .i64 (i % 64)]) 0] Env.zero [] [] rfl
def gat_0 (r : Int) (s : Int) (b : Int) (m : Int) (c : Int) (i : Int) : Int := (bif (decide (i < 0)) || (!(gholds r s b m c (i / 2 ^ 20) (i / 2 ^ 16 % 16) (i / 2 ^ 6 % 1024) (i % 64))) then 0 else (i / 2 ^ 20))
def gat_1 (r : Int) (s : Int) (b : Int) (m : Int) (c : Int) (i : Int) : Int := (bif (decide (i < 0)) || (!(gholds r s b m c (i / 2 ^ 20) (i / 2 ^ 16 % 16) (i / 2 ^ 6 % 1024) (i % 64))) then 0 else (i / 2 ^ 16 % 16))
def gat_2 (r : Int) (s : Int) (b : Int) (m : Int) (c : Int) (i : Int) : Int := (bif (decide (i < 0)) || (!(gholds r s b m c (i / 2 ^ 20) (i / 2 ^ 16 % 16) (i / 2 ^ 6 % 1024) (i % 64))) then 0 else (i / 2 ^ 6 % 1024))
def gat_3 (r : Int) (s : Int) (b : Int) (m : Int) (c : Int) (i : Int) : Int := (bif (decide (i < 0)) || (!(gholds r s b m c (i / 2 ^ 20) (i / 2 ^ 16 % 16) (i / 2 ^ 6 % 1024) (i % 64))) then 0 else (i % 64))
def gat_4 (r : Int) (s : Int) (b : Int) (m : Int) (c : Int) (i : Int) : Int := (bif (decide (i < 0)) || (!(gholds r s b m c (i / 2 ^ 20) (i / 2 ^ 16 % 16) (i / 2 ^ 6 % 1024) (i % 64))) then 12 else 0)
set_option maxRecDepth 100000 in
set_option maxHeartbeats 1000000 in
theorem gat (r s b m c i : Int) : Con Try.prog 73 #[.agg #[.int .i64 r, .int .i64 s, .int .i64 b, .int .i64 m, .int .i64 c], .int .i64 i] [] [] (fun _ => []) (fun _ => .tuple #[.agg #[.int .i64 (gat_0 r s b m c i), .int .i64 (gat_1 r s b m c i), .int .i64 (gat_2 r s b m c i), .int .i64 (gat_3 r s b m c i)], .int .i64 (gat_4 r s b m c i)]) := by
 refine Con.of (enters_of Try.func73 (by kernel_rfl) rfl) fun w cs HS HH OW => ?_
 refine (callsIn_wide (n := 6)).1 ?_
 refine callsIn_of_wp_marks Try.func73 rfl trivial ?_ rfl
 simp only [Try.ntmps73, eF, Nat.reduceAdd, Nat.reduceSub]
 gi_upto_region 0 with fail
 refine rg (fun q1 => [.m (bx 0),
  .m (al 1),
  .v (.int .i64 0)]) (fun q1 L => L ++ [ob ((q1 0).blk 0) #[.int .i64 r, .int .i64 s, .int .i64 b, .int .i64 m, .int .i64 c] 27, ob ((q1 1).blk 0) #[.int .i64 0, .int .i64 0, .int .i64 0, .int .i64 0] 23]) OW ?_
 clear OW; intro q1 _ Wq1 OW; simp only [↓pc, ↓pn, vE, Hint.val, Act.put, eL]
 gi_upto_region 1 with fail
 refine rg (fun q2 => [.v (.int .i64 i),
  .c [] [] (gplace i),
  .m (al 2),
  .m (ss 2)]) (fun q2 L => L ++ [ob ((q2 2).blk 0) #[.int .i64 (i / 2 ^ 20), .int .i64 (i / 2 ^ 16 % 16), .int .i64 (i / 2 ^ 6 % 1024), .int .i64 (i % 64)] 23]) OW ?_
 clear OW; intro q2 _ Wq2 OW; simp only [↓pc, ↓pn, vE, Hint.val, Act.put, eL]
 gi_upto_region 2 with fail
 refine rg (fun q3 => [.v (.int .i64 i),
  .v (.bool (decide (i < 0))),
  .v (.bool (decide (i < 0))),
  .m (ls 0 ([.int .i64 r, .int .i64 s, .int .i64 b, .int .i64 m, .int .i64 c])),
  .m (ls 2 ([.int .i64 (i / 2 ^ 20), .int .i64 (i / 2 ^ 16 % 16), .int .i64 (i / 2 ^ 6 % 1024), .int .i64 (i % 64)])),
  .c [] [] (conB (enters_of Try.func62 (by kernel_rfl) rfl) fun w' => (gholds_any r s b m c (i / 2 ^ 20) (i / 2 ^ 16 % 16) (i / 2 ^ 6 % 1024) (i % 64) _)),
  .v (.bool (!(gholds r s b m c (i / 2 ^ 20) (i / 2 ^ 16 % 16) (i / 2 ^ 6 % 1024) (i % 64)))),
  .k (.bool ((decide (i < 0)) || (!(gholds r s b m c (i / 2 ^ 20) (i / 2 ^ 16 % 16) (i / 2 ^ 6 % 1024) (i % 64)))))]) (fun _ L => L) OW ?_
 clear OW; intro q3 _ Wq3 OW; simp only [↓pc, ↓pn, vE, Hint.val, Act.put, eL]
 cases hB4 : ((decide (i < 0)) || (!(gholds r s b m c (i / 2 ^ 20) (i / 2 ^ 16 % 16) (i / 2 ^ 6 % 1024) (i % 64))))
 case true =>
  gi_upto_region 3 with fail
  refine rg (fun q5 => [.v (.agg #[.int .i64 0, .int .i64 0, .int .i64 0, .int .i64 0]),
   .m (ss 1),
   .v (.int .i64 12)]) (fun _ L => L) OW ?_
  clear OW; intro q5 _ Wq5 OW; simp only [↓pc, ↓pn, vE, Hint.val, Act.put, eL]
  gi_wp2
  exact leafE HS HH OW [.s ([.int .i64 0, .int .i64 0, .int .i64 0, .int .i64 0]) 1, .t (.int .i64 12)] Env.zero [] [] (by (try simp only [gat_0, gat_1, gat_2, gat_3, gat_4]); (repeat (first | rw [hB4] | rw [cond_true] | rw [cond_false])); first | rfl | kernel_rfl) (by kernel_rfl) (by (try simp only [gat_0, gat_1, gat_2, gat_3, gat_4]); (repeat (first | rw [hB4] | rw [cond_true] | rw [cond_false])); kernel_rfl)
 gi_upto_region 4 with fail
 refine rg (fun q6 => [.m (ls 2 ([.int .i64 (i / 2 ^ 20), .int .i64 (i / 2 ^ 16 % 16), .int .i64 (i / 2 ^ 6 % 1024), .int .i64 (i % 64)])),
  .m (ss 1),
  .v (.int .i64 0)]) (fun q6 L => L.set 1 (ob ((q1 1).blk 0) #[.int .i64 (i / 2 ^ 20), .int .i64 (i / 2 ^ 16 % 16), .int .i64 (i / 2 ^ 6 % 1024), .int .i64 (i % 64)] 23)) OW ?_
 clear OW; intro q6 _ Wq6 OW; simp only [↓pc, ↓pn, vE, Hint.val, Act.put, eL]
 gi_wp2
 exact leafE HS HH OW [.s ([.int .i64 (i / 2 ^ 20), .int .i64 (i / 2 ^ 16 % 16), .int .i64 (i / 2 ^ 6 % 1024), .int .i64 (i % 64)]) 1, .t (.int .i64 0)] Env.zero [] [] (by (try simp only [gat_0, gat_1, gat_2, gat_3, gat_4]); (repeat (first | rw [hB4] | rw [cond_true] | rw [cond_false])); first | rfl | kernel_rfl) (by kernel_rfl) (by (try simp only [gat_0, gat_1, gat_2, gat_3, gat_4]); (repeat (first | rw [hB4] | rw [cond_true] | rw [cond_false])); kernel_rfl)
end Go.Proofs.Ytckhkagkpldoiaa.E
