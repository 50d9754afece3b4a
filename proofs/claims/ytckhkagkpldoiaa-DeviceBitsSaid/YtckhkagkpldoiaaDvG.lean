/- DeviceBits, walked. -/
import Derived.Test.YtckhkagkpldoiaaDvF
import Derived.Test.YtckhkagkpldoiaaEeE
import Derived.WalkKit
import Derived.Sort.CutIn
import Derived.IntWalk
namespace Go.Proofs.Ytckhkagkpldoiaa.E
open Go Go.RowKit Go.Shelf
attribute [local go_sem] Oper.semAt_some
set_option linter.unusedVariables false
set_option linter.unusedSimpArgs false

/-- The device and the bytes, behind so many bits. -/
def bitV (V : Dv) (u0 u1 u2 u3 : Int) (bits : List Int) : Nat → Dv
  | 0 => V
  | k + 1 => injV (bitV V u0 u1 u2 u3 bits k) (fbt u0 u1 u2 u3 (bits.getD k 0))
def bitX (V : Dv) (u0 u1 u2 u3 : Int) (bits : List Int) (x : List UInt8) : Nat → List UInt8
  | 0 => x
  | k + 1 => bif dInject_0 (bitV V u0 u1 u2 u3 bits k).D (fbt u0 u1 u2 u3 (bits.getD k 0)) == 0 then flipI (bitX V u0 u1 u2 u3 bits x k) (bits.getD k 0) else bitX V u0 u1 u2 u3 bits x k
theorem bitX_len (V : Dv) (u0 u1 u2 u3 : Int) (bits : List Int) {x : List UInt8} (hx : x.length = 72) : ∀ k, (bitX V u0 u1 u2 u3 bits x k).length = 72
  | 0 => hx
  | k + 1 => by
    unfold bitX
    cases dInject_0 (bitV V u0 u1 u2 u3 bits k).D (fbt u0 u1 u2 u3 (bits.getD k 0)) == 0
    · exact bitX_len V u0 u1 u2 u3 bits hx k
    · exact (flipI_length _ _).trans (bitX_len V u0 u1 u2 u3 bits hx k)
theorem int_at {bits : List Int} (hb : ∀ b ∈ bits, -9223372036854775808 ≤ b ∧ b ≤ 9223372036854775807) (k : Nat) : -9223372036854775808 ≤ bits.getD k 0 ∧ bits.getD k 0 ≤ 9223372036854775807 := by
  rw [List.getD_eq_getElem?_getD]
  cases h : bits[k]? with
  | none => exact ⟨by decide, by decide⟩
  | some y => exact hb y (List.mem_of_getElem? h)
theorem fbt_ok {bits : List Int} (hb : ∀ b ∈ bits, -9223372036854775808 ≤ b ∧ b ≤ 9223372036854775807) (u0 u1 u2 u3 : Int) (k : Nat) : FaOk (fbt u0 u1 u2 u3 (bits.getD k 0)) := int_at hb k
theorem bitV_k {V : Dv} {n : Nat} (h : DvK V n) {bits : List Int} (hb : ∀ b ∈ bits, -9223372036854775808 ≤ b ∧ b ≤ 9223372036854775807) (u0 u1 u2 u3 : Int) : ∀ k, DvK (bitV V u0 u1 u2 u3 bits k) n
  | 0 => h
  | k + 1 => (bitV_k h hb u0 u1 u2 u3 k).inj (fbt_ok hb u0 u1 u2 u3 k)
theorem bitV_bi {V : Dv} {r s b m c mode u0 u1 u2 u3 : Int} {x g : List UInt8} {mk : Int} {l : List Ac} (h : BI V r s b m c mode (gindex_0 r s b m c u0 u1 u2 u3) x g mk l) (hi : gindex_1 r s b m c u0 u1 u2 u3 = 0) (bits : List Int) : ∀ k, BI (bitV V u0 u1 u2 u3 bits k) r s b m c mode (gindex_0 r s b m c u0 u1 u2 u3) (bitX V u0 u1 u2 u3 bits x k) g mk l
  | 0 => h
  | k + 1 => (bitV_bi h hi bits k).inj hi (bits.getD k 0)
/-- What is told of all that is done. -/
structure BitsT (V4 : Dv) (n : Nat) (i : Int) (x r got again : List UInt8) (e : Nat) : Prop where
  l : V4.l = [⟨true, i, i, false, 0, false⟩, ⟨false, i, i, false, ((e : Nat) : Int), false⟩, ⟨true, i, i, false, 0, false⟩, ⟨false, i, i, false, 0, false⟩]
  got : got = x
  again : again = r
  gh : V4.ghost i = r
theorem bits_t {r s b m c mode u0 u1 u2 u3 : Int} {xs : List UInt8} (hi : gindex_1 r s b m c u0 u1 u2 u3 = 0) (he : expo mode xs xs = 0) (bits : List Int) (n : Nat) :
    BitsT (rdV (putV (rdV (bitV (putV (V0 r s b m c mode) (gindex_0 r s b m c u0 u1 u2 u3) xs 0) u0 u1 u2 u3 bits n) (gindex_0 r s b m c u0 u1 u2 u3)) (gindex_0 r s b m c u0 u1 u2 u3) xs 0) (gindex_0 r s b m c u0 u1 u2 u3)) n (gindex_0 r s b m c u0 u1 u2 u3)
      (bitX (putV (V0 r s b m c mode) (gindex_0 r s b m c u0 u1 u2 u3) xs 0) u0 u1 u2 u3 bits xs n) xs
      (vRead_0 (bitV (putV (V0 r s b m c mode) (gindex_0 r s b m c u0 u1 u2 u3) xs 0) u0 u1 u2 u3 bits n) (gindex_0 r s b m c u0 u1 u2 u3))
      (vRead_0 (putV (rdV (bitV (putV (V0 r s b m c mode) (gindex_0 r s b m c u0 u1 u2 u3) xs 0) u0 u1 u2 u3 bits n) (gindex_0 r s b m c u0 u1 u2 u3)) (gindex_0 r s b m c u0 u1 u2 u3) xs 0) (gindex_0 r s b m c u0 u1 u2 u3))
      (expo mode (bitX (putV (V0 r s b m c mode) (gindex_0 r s b m c u0 u1 u2 u3) xs 0) u0 u1 u2 u3 bits xs n) xs) := by
  have hg := (gat_of hi).1
  have h1 := (V0_bi r s b m c mode (gindex_0 r s b m c u0 u1 u2 u3)).put hg xs 0
  have h2 := bitV_bi h1 hi bits n
  obtain ⟨h3, e3⟩ := h2.rd hg
  have h4 := h3.put hg xs 0
  obtain ⟨h5, e5⟩ := h4.rd hg
  refine ⟨?_, e3, e5, h5.g⟩
  rw [h5.l, he]
  rfl
theorem bits_ok {V4 : Dv} {n : Nat} {i : Int} {x r got again : List UInt8} {e : Nat} (h : BitsT V4 n i x r got again e) {k : Nat} (hk : k < V4.l.length - fromN 1) :
    (((((fromN 1 + k : Nat) : Int) == 1) && ((V4.l.getD (fromN 1 + k) zAc).expo != ((e : Nat) : Int))) || ((decide (1 < ((fromN 1 + k : Nat) : Int))) && ((V4.l.getD (fromN 1 + k) zAc).expo != 0))) = false := by
  rw [h.l] at hk ⊢
  have h1 : fromN 1 = 1 := rfl
  have hk : k < 3 := hk
  rw [h1]
  have hc : k = 0 ∨ k = 1 ∨ k = 2 := by omega
  rcases hc with rfl | rfl | rfl
  · show ((((1 : Int) == 1) && (((e : Nat) : Int) != ((e : Nat) : Int))) || (decide ((1 : Int) < 1) && _)) = false
    rw [bne_self_eq_false]
    rfl
  · rfl
  · rfl
theorem bits_n {V4 : Dv} {n : Nat} {i : Int} {x r got again : List UInt8} {e : Nat} (h : BitsT V4 n i x r got again e) : V4.l.length - fromN 1 = 3 ∧ V4.l.length ≤ 1000000 := by
  rw [h.l]
  exact ⟨rfl, Nat.le_of_ble_eq_true rfl⟩
theorem bits_fin {V4 : Dv} {n : Nat} {i : Int} {x r got again : List UInt8} {e : Nat} (h : BitsT V4 n i x r got again e) : (((decide (got = x) && decide (again = r)) && ((((V4.l.length - fromN 1) : Nat) : Int) == 3)) && decide (V4.ghost i = r)) = true := by
  rw [decide_eq_true h.got, decide_eq_true h.again, decide_eq_true h.gh, (bits_n h).1]
  rfl
theorem vRead_len {V : Dv} (h : DrOk V.D) (i : Int) : (vRead_0 V i).length = 72 := by
  unfold vRead_0
  cases dRead_3 V.D i != 0
  · exact dRead_len h i
  · exact List.length_replicate
attribute [local irreducible] fapply ovF gat_0 gat_1 gat_2 gat_3 gat_4 gindex_0 gindex_1 dInject_0 injD wrD rdD dWrite_0 dWrite_1 dWrite_2 dRead_0 dRead_1 dRead_2 dRead_3 D0 expo putV rdV V0 chipB fromN flipI bitV bitX injV
set_option maxRecDepth 100000 in
set_option maxHeartbeats 1000000 in
theorem vbits (r s n m c mode u0 u1 u2 u3 : Int) (xs : List UInt8) (lx : xs.length = 72) (v : Value) (bits : List Int) (hb : ∀ b ∈ bits, -9223372036854775808 ≤ b ∧ b ≤ 9223372036854775807) (bs : Objs) (h : SrE eI v bits bs) (hg : gright r s n m c = true) (hm : rightB mode = true) : Con Try.prog 13 #[.agg #[.int .i64 r, .int .i64 s, .int .i64 n, .int .i64 m, .int .i64 c], .int .i64 mode, .agg #[.int .i64 u0, .int .i64 u1, .int .i64 u2, .int .i64 u3], .agg (rB 72 xs).toArray, v] [.c bs] [] (fun _ => []) (fun _ => .bool true) := by
 refine Con.of (enters_of Try.func13 (by kernel_rfl) rfl) fun w cs HS HH OW => ?_
 have HM2 : mode = 1 ∨ mode = 2 := by unfold rightB at hm; simpa using hm
 have HK0 := V0_k r s n m c mode
 have HK1 := HK0.put (gindex_0 r s n m c u0 u1 u2 u3) lx 0
 have HKV := fun k => bitV_k HK1 hb u0 u1 u2 u3 k
 have HK3 := (HKV bits.length).rd (gindex_0 r s n m c u0 u1 u2 u3)
 have HK4 := HK3.put (gindex_0 r s n m c u0 u1 u2 u3) lx 0
 have HBX := fun k => bitX_len (putV (V0 r s n m c mode) (gindex_0 r s n m c u0 u1 u2 u3) xs 0) u0 u1 u2 u3 bits lx k
 have HRL1 := vRead_len (HKV bits.length).D (gindex_0 r s n m c u0 u1 u2 u3)
 have HRL2 := vRead_len HK4.D (gindex_0 r s n m c u0 u1 u2 u3)
 have HGL := (HK4.rd (gindex_0 r s n m c u0 u1 u2 u3)).gl
 have HKH := Lib.hid HM2
 clear HM2
 refine (callsIn_wide (n := 6)).1 ?_
 refine callsIn_of_wp_marks Try.func13 rfl trivial ?_ rfl
 simp only [Try.ntmps13, eF, Nat.reduceAdd, Nat.reduceSub]
 gi_upto_region 0 with fail
 refine rg (fun q1 => [.m (bx 1),
  .m (bx 2),
  .m (bx 3),
  .m (bx 4),
  .m (al 5)]) (fun q1 L => L ++ [ob ((q1 0).blk 0) #[.int .i64 r, .int .i64 s, .int .i64 n, .int .i64 m, .int .i64 c] 27, ob ((q1 1).blk 0) #[.int .i64 mode] 3, ob ((q1 2).blk 0) #[.int .i64 u0, .int .i64 u1, .int .i64 u2, .int .i64 u3] 23, ob ((q1 3).blk 0) (rB 72 xs).toArray 41, ob ((q1 4).blk 0) #[.bool false] 4]) OW ?_
 clear OW; intro q1 _ Wq1 OW; simp only [↓pc, ↓pn, vE, Hint.val, Act.put, eL]
 gi_upto_region 1 with fail
 refine rg (fun q2 => [.c [] [] (vanchor),
  .v (.bool false)]) (fun _ L => L) OW ?_
 clear OW; intro q2 _ Wq2 OW; simp only [↓pc, ↓pn, vE, Hint.val, Act.put, eL]
 gi_upto_region 3 with fail
 refine rg (fun q3 => [.m (ls 1 ([.int .i64 r, .int .i64 s, .int .i64 n, .int .i64 m, .int .i64 c])),
  .m (ld 2 (.int .i64 mode)),
  .c [] [6] (vNew r s n m c mode hg hm),
  .v (.tuple #[.pointer (some ⟨((q3 2).blk 0), 0, none⟩), .int .i64 0]),
  .v (.pointer (some ⟨((q3 2).blk 0), 0, none⟩)),
  .v (.int .i64 0),
  .v (.pointer (some ⟨((q3 2).blk 0), 0, none⟩)),
  .v (.int .i64 0)]) (fun q3 L => L ++ [.p (PkE (DevS (((q3 2).blk 0)) (V0 r s n m c mode)))]) OW ?_
 clear OW; intro q3 _ Wq3 OW; simp only [↓pc, ↓pn, vE, Hint.val, Act.put, eL]
 gi_upto_region 4 with fail
 refine rg (fun q4 => [.v (.int .i64 0),
  .v (.bool false),
  .v (.bool false),
  .v (.pointer (some ⟨((q3 2).blk 0), 0, none⟩)),
  .v (.bool false),
  .k (.bool false),
  .v (.bool false),
  .v (v),
  .m (lenR 0 (.c bs) (cP h)),
  .v (.bool (decide (60 < (bits.length : Int)))),
  .k (.bool (decide (60 < (bits.length : Int))))]) (fun _ L => L) OW ?_
 clear OW; intro q4 _ Wq4 OW; simp only [↓pc, ↓pn, vE, Hint.val, Act.put, eL]
 cases hB5 : (decide (60 < (bits.length : Int)))
 case true =>
  have dhB5 := of_decide_eq_true hB5
  gi_upto_region 5 with fail
  refine rg (fun q6 => [.v (.pointer (some ⟨((q3 2).blk 0), 0, none⟩)),
   .v (.bool false),
   .v (.bool false),
   .v (v),
   .m (lenR 0 (.c bs) (cP h)),
   .t (tk (show Value.bool (decide (60 < (bits.length : Int))) = .bool true from congrArg Value.bool hB5)),
   .k (.bool true),
   .m (st 5)]) (fun q6 L => L.set 5 (ob ((q1 4).blk 0) #[.bool true] 4)) OW ?_
  clear OW; intro q6 _ Wq6 OW; simp only [↓pc, ↓pn, vE, Hint.val, Act.put, eL]
  gi_wp2
  exact leafE HS HH OW [.c (.bool true) 5] Env.zero [] [(0, 0)] (by first | rfl | exact congrArg Value.bool (bits_fin HBT))
 have dhB5 := of_decide_eq_false hB5
 gi_upto_region 6 with fail
 refine rg (fun q7 => [.m (ls 1 ([.int .i64 r, .int .i64 s, .int .i64 n, .int .i64 m, .int .i64 c])),
  .m (ls 3 ([.int .i64 u0, .int .i64 u1, .int .i64 u2, .int .i64 u3])),
  .c [] [] (gindex r s n m c u0 u1 u2 u3),
  .v (.tuple #[.int .i64 (gindex_0 r s n m c u0 u1 u2 u3), .int .i64 (gindex_1 r s n m c u0 u1 u2 u3)]),
  .v (.int .i64 (gindex_0 r s n m c u0 u1 u2 u3)),
  .v (.int .i64 (gindex_1 r s n m c u0 u1 u2 u3)),
  .v (.int .i64 (gindex_0 r s n m c u0 u1 u2 u3)),
  .v (.int .i64 (gindex_1 r s n m c u0 u1 u2 u3))]) (fun _ L => L) OW ?_
 clear OW; intro q7 _ Wq7 OW; simp only [↓pc, ↓pn, vE, Hint.val, Act.put, eL]
 gi_upto_region 7 with fail
 refine rg (fun q8 => [.v (.int .i64 (gindex_1 r s n m c u0 u1 u2 u3)),
  .v (.bool ((gindex_1 r s n m c u0 u1 u2 u3) != 0))]) (fun _ L => L) OW ?_
 clear OW; intro q8 _ Wq8 OW; simp only [↓pc, ↓pn, vE, Hint.val, Act.put, eL]
 cases hB9 : ((gindex_1 r s n m c u0 u1 u2 u3) != 0)
 case true =>
  have dhB9 := bne_iff_ne.1 hB9
  gi_upto_region 8 with fail
  refine rg (fun q10 => [.m (st 5)]) (fun q10 L => L.set 5 (ob ((q1 4).blk 0) #[.bool true] 4)) OW ?_
  clear OW; intro q10 _ Wq10 OW; simp only [↓pc, ↓pn, vE, Hint.val, Act.put, eL]
  gi_wp2
  exact leafE HS HH OW [.c (.bool true) 5] Env.zero [] [(0, 0)] (by first | rfl | exact congrArg Value.bool (bits_fin HBT))
 have dhB9 := Lib.hid (eq_of_bne_false hB9)
 gi_upto_region 9 with fail
 have HBT := bits_t (r := r) (s := s) (b := n) (m := m) (c := c) (mode := mode) (xs := xs) (eq_of_bne_false hB9) ((expo_zero HKH.out lx lx).2 rfl) bits bits.length
 refine rg (fun q11 => [.v (.pointer (some ⟨((q3 2).blk 0), 0, none⟩)),
  .v (.int .i64 (gindex_0 r s n m c u0 u1 u2 u3)),
  .m (ls 4 (rB 72 xs)),
  .c [6] [6] (vWrite ((q3 2).blk 0) (V0 r s n m c mode) (gindex_0 r s n m c u0 u1 u2 u3) xs (by first | rfl | (simp only [List.length_set, List.length_append, List.length_replicate, List.length_cons, List.length_nil, List.length_map, List.length_range, List.length_take, List.length_drop, flipI_length, HBX, HGL, HRL1, HRL2, lx]; done) | (simp only [List.length_set, List.length_append, List.length_replicate, List.length_cons, List.length_nil, List.length_map, List.length_range, List.length_take, List.length_drop, flipI_length, HBX, HGL, HRL1, HRL2, lx]; omega)) (by first | exact HK0.ok (by decide) | exact HK3.ok (by decide)))]) (fun q11 L => L.set 6 (.p (PkE (DevS ((q3 2).blk 0) (putV (V0 r s n m c mode) (gindex_0 r s n m c u0 u1 u2 u3) xs 0))))) OW ?_
 clear OW; intro q11 _ Wq11 OW; simp only [↓pc, ↓pn, vE, Hint.val, Act.put, eL]
 gi_upto_region 10 with fail
 refine rg (fun q12 => [.m (ls 4 (rB 72 xs)),
  .m (al 7),
  .m (ss 7)]) (fun q12 L => L ++ [ob ((q12 1).blk 0) (rB 72 xs).toArray 41]) OW ?_
 clear OW; intro q12 _ Wq12 OW; simp only [↓pc, ↓pn, vE, Hint.val, Act.put, eL]
 gi_upto_region 11 with fail
 refine rg (fun q13 => [.v (v),
  .m (lenR 0 (.c bs) (cP h)),
  .v (.int .i64 0)]) (fun _ L => L) OW ?_
 clear OW; intro q13 _ Wq13 OW; simp only [↓pc, ↓pn, vE, Hint.val, Act.put, eL]
 gi_wp2
 gi_loopw [66] (fun z66 wr => ∃ k : Nat, k ≤ bits.length ∧ z66 = .int .i64 (k : Int) ∧ OwnE (ids cs.flatten) w [.c bs, ob ((q1 0).blk 0) #[.int .i64 r, .int .i64 s, .int .i64 n, .int .i64 m, .int .i64 c] 27, ob ((q1 1).blk 0) #[.int .i64 mode] 3, ob ((q1 2).blk 0) #[.int .i64 u0, .int .i64 u1, .int .i64 u2, .int .i64 u3] 23, ob ((q1 3).blk 0) (rB 72 xs).toArray 41, ob ((q1 4).blk 0) #[.bool false] 4, .p (PkE (DevS (((q3 2).blk 0)) (bitV (putV (V0 r s n m c mode) (gindex_0 r s n m c u0 u1 u2 u3) xs 0) u0 u1 u2 u3 bits k))), ob ((q12 1).blk 0) (rB 72 (bitX (putV (V0 r s n m c mode) (gindex_0 r s n m c u0 u1 u2 u3) xs 0) u0 u1 u2 u3 bits xs k)).toArray 41] wr) (fun z66 _ => bits.length - (intOf (z66)).toNat)
 case atStart => exact ⟨0, by omega, rfl, (by rw [bitV, bitX]; exact OwnE.cast OW.out (by kernel_rfl))⟩
 case round =>
  obtain ⟨k, hk15, rfl, hO⟩ := hrel
  clear OW
  obtain ⟨hi1, hi2⟩ := int_at hb k
  have OW := Lib.hid hO
  clear hO
  gi_upto_region 12 with fail
  refine rg (fun q16 => [.v (.bool (decide ((k : Int) < (bits.length : Int))))]) (fun _ L => L) OW ?_
  clear OW; intro q16 _ Wq16 OW; simp only [↓pc, ↓pn, vE, Hint.val, Act.put, eL]
  cases hB17 : (decide ((k : Int) < (bits.length : Int)))
  case true =>
   have dhB17 := of_decide_eq_true hB17
   gi_upto_region 13 with fail
   refine rg (fun q18 => [.m (idxR 0 (.c bs) k 1 (cP h) (by omega)),
    .m (ldR (u := .int .i64 (bits.getD k 0)) (d := 0) 0 (.c bs) k 1 0 (cP h) (fun _ => rfl) (by omega) (Nat.le_of_ble_eq_true rfl) (by kernel_rfl)),
    .v (.int .i64 (bits.getD k 0))]) (fun _ L => L) OW ?_
   clear OW; intro q18 _ Wq18 OW; simp only [↓pc, ↓pn, vE, Hint.val, Act.put, eL]
   gi_upto_region 14 with fail
   refine rg (fun q19 => [.v (.pointer (some ⟨((q3 2).blk 0), 0, none⟩)),
    .m (ls 3 ([.int .i64 u0, .int .i64 u1, .int .i64 u2, .int .i64 u3])),
    .v (.int .i64 (bits.getD k 0)),
    .v (.agg #[.int .i64 1, .int .i64 u0, .int .i64 u1, .int .i64 u2, .int .i64 u3, .int .i64 0, .int .i64 (bits.getD k 0), .int .i64 0]),
    .c [6] [6] (vInject ((q3 2).blk 0) (bitV (putV (V0 r s n m c mode) (gindex_0 r s n m c u0 u1 u2 u3) xs 0) u0 u1 u2 u3 bits k) (⟨1, u0, u1, u2, u3, 0, (bits.getD k 0), 0⟩ : Fa) ((HKV k).ok (by decide)) (fbt_ok hb u0 u1 u2 u3 k)),
    .v (.bool ((dInject_0 (bitV (putV (V0 r s n m c mode) (gindex_0 r s n m c u0 u1 u2 u3) xs 0) u0 u1 u2 u3 bits k).D (⟨1, u0, u1, u2, u3, 0, (bits.getD k 0), 0⟩ : Fa)) == 0))]) (fun q19 L => L.set 6 (.p (PkE (DevS ((q3 2).blk 0) (injV (bitV (putV (V0 r s n m c mode) (gindex_0 r s n m c u0 u1 u2 u3) xs 0) u0 u1 u2 u3 bits k) (⟨1, u0, u1, u2, u3, 0, (bits.getD k 0), 0⟩ : Fa)))))) OW ?_
   clear OW; intro q19 _ Wq19 OW; simp only [↓pc, ↓pn, vE, Hint.val, Act.put, eL]
   cases hB20 : ((dInject_0 (bitV (putV (V0 r s n m c mode) (gindex_0 r s n m c u0 u1 u2 u3) xs 0) u0 u1 u2 u3 bits k).D (⟨1, u0, u1, u2, u3, 0, (bits.getD k 0), 0⟩ : Fa)) == 0)
   case true =>
    have dhB20 := Lib.hid (eq_of_beq hB20)
    gi_upto_region 15 with fail
    refine rg (fun q21 => [.m (ls 7 (rB 72 (bitX (putV (V0 r s n m c mode) (gindex_0 r s n m c u0 u1 u2 u3) xs 0) u0 u1 u2 u3 bits xs k))),
     .v (.int .i64 (bits.getD k 0)),
     .c [] [] (show Con _ 52 #[.agg (rB 72 (bitX (putV (V0 r s n m c mode) (gindex_0 r s n m c u0 u1 u2 u3) xs 0) u0 u1 u2 u3 bits xs k)).toArray, .int .i64 (bits.getD k 0)] _ _ _ fun _ => .agg (rB 72 (flipI (bitX (putV (V0 r s n m c mode) (gindex_0 r s n m c u0 u1 u2 u3) xs 0) u0 u1 u2 u3 bits xs k) (bits.getD k 0))).toArray from conB (enters_of Try.func52 (by kernel_rfl) rfl) fun w' => (by rw [rB_raw (n := 72) (xs := bitX (putV (V0 r s n m c mode) (gindex_0 r s n m c u0 u1 u2 u3) xs 0) u0 u1 u2 u3 bits xs k) (show (bitX (putV (V0 r s n m c mode) (gindex_0 r s n m c u0 u1 u2 u3) xs 0) u0 u1 u2 u3 bits xs k).length = 72 by first | rfl | (simp only [List.length_set, List.length_append, List.length_replicate, List.length_cons, List.length_nil, List.length_map, List.length_range, List.length_take, List.length_drop, flipI_length, HBX, HGL, HRL1, HRL2, lx]; done) | (simp only [List.length_set, List.length_append, List.length_replicate, List.length_cons, List.length_nil, List.length_map, List.length_range, List.length_take, List.length_drop, flipI_length, HBX, HGL, HRL1, HRL2, lx]; omega)), rB_raw (n := 72) (xs := flipI (bitX (putV (V0 r s n m c mode) (gindex_0 r s n m c u0 u1 u2 u3) xs 0) u0 u1 u2 u3 bits xs k) (bits.getD k 0)) (show (flipI (bitX (putV (V0 r s n m c mode) (gindex_0 r s n m c u0 u1 u2 u3) xs 0) u0 u1 u2 u3 bits xs k) (bits.getD k 0)).length = 72 by first | rfl | (simp only [List.length_set, List.length_append, List.length_replicate, List.length_cons, List.length_nil, List.length_map, List.length_range, List.length_take, List.length_drop, flipI_length, HBX, HGL, HRL1, HRL2, lx]; done) | (simp only [List.length_set, List.length_append, List.length_replicate, List.length_cons, List.length_nil, List.length_map, List.length_range, List.length_take, List.length_drop, flipI_length, HBX, HGL, HRL1, HRL2, lx]; omega))]; exact rflip_any (bitX (putV (V0 r s n m c mode) (gindex_0 r s n m c u0 u1 u2 u3) xs 0) u0 u1 u2 u3 bits xs k) (by first | rfl | (simp only [List.length_set, List.length_append, List.length_replicate, List.length_cons, List.length_nil, List.length_map, List.length_range, List.length_take, List.length_drop, flipI_length, HBX, HGL, HRL1, HRL2, lx]; done) | (simp only [List.length_set, List.length_append, List.length_replicate, List.length_cons, List.length_nil, List.length_map, List.length_range, List.length_take, List.length_drop, flipI_length, HBX, HGL, HRL1, HRL2, lx]; omega)) (bits.getD k 0) (by omega) (by omega) _)),
     .m (ss 7)]) (fun q21 L => L.set 7 (ob ((q12 1).blk 0) (rB 72 (flipI (bitX (putV (V0 r s n m c mode) (gindex_0 r s n m c u0 u1 u2 u3) xs 0) u0 u1 u2 u3 bits xs k) (bits.getD k 0))).toArray 41)) OW ?_
    clear OW; intro q21 _ Wq21 OW; simp only [↓pc, ↓pn, vE, Hint.val, Act.put, eL]
    gi_upto_region 16 with fail
    refine rg (fun q22 => [.t (tb (a := .int .i64 (k : Int)) (b := .int .i64 1) fun _ _ _ _ => bin_add_nat (a := k) (b := 1) (by omega)),
     .v (.int .i64 ((k + 1 : Nat) : Int))]) (fun _ L => L) OW ?_
    clear OW; intro q22 _ Wq22 OW; simp only [↓pc, ↓pn, vE, Hint.val, Act.put, eL]
    gi_wp2
    go_roundw
    case rel => exact ⟨k + 1, by omega, by go_num, (by rw [bitV, bitX, fbt]; (repeat (first | rw [hB5] | rw [hB9] | rw [hB17] | rw [hB20] | rw [cond_true] | rw [cond_false])); exact OwnE.pick OW.out [0, 1, 2, 3, 4, 5, 6, 7] _ (by kernel_rfl))⟩
    case measure => (simp [intOf] <;> omega)
   have dhB20 := ne_of_beq_false hB20
   gi_upto_region 16 with fail
   refine rg (fun q23 => [.t (tb (a := .int .i64 (k : Int)) (b := .int .i64 1) fun _ _ _ _ => bin_add_nat (a := k) (b := 1) (by omega)),
    .v (.int .i64 ((k + 1 : Nat) : Int))]) (fun _ L => L) OW ?_
   clear OW; intro q23 _ Wq23 OW; simp only [↓pc, ↓pn, vE, Hint.val, Act.put, eL]
   gi_wp2
   go_roundw
   case rel => exact ⟨k + 1, by omega, by go_num, (by rw [bitV, bitX, fbt]; (repeat (first | rw [hB5] | rw [hB9] | rw [hB17] | rw [hB20] | rw [cond_true] | rw [cond_false])); exact OwnE.pick OW.out [0, 1, 2, 3, 4, 5, 6, 7] _ (by kernel_rfl))⟩
   case measure => (simp [intOf] <;> omega)
  have dhB17 := of_decide_eq_false hB17
  obtain rfl : bits.length = k := by omega
  gi_upto_region 17 with fail
  refine rg (fun q24 => [.v (.pointer (some ⟨((q3 2).blk 0), 0, none⟩)),
   .v (.int .i64 (gindex_0 r s n m c u0 u1 u2 u3)),
   .c [6] [6] (vRead ((q3 2).blk 0) (bitV (putV (V0 r s n m c mode) (gindex_0 r s n m c u0 u1 u2 u3) xs 0) u0 u1 u2 u3 bits bits.length) (gindex_0 r s n m c u0 u1 u2 u3) (by first | exact (HKV bits.length).ok (by decide) | exact HK4.ok (by decide))),
   .v (.tuple #[.agg (rB 72 (vRead_0 (bitV (putV (V0 r s n m c mode) (gindex_0 r s n m c u0 u1 u2 u3) xs 0) u0 u1 u2 u3 bits bits.length) (gindex_0 r s n m c u0 u1 u2 u3))).toArray, .int .i64 (vRead_1 (bitV (putV (V0 r s n m c mode) (gindex_0 r s n m c u0 u1 u2 u3) xs 0) u0 u1 u2 u3 bits bits.length) (gindex_0 r s n m c u0 u1 u2 u3))]),
   .v (.agg (rB 72 (vRead_0 (bitV (putV (V0 r s n m c mode) (gindex_0 r s n m c u0 u1 u2 u3) xs 0) u0 u1 u2 u3 bits bits.length) (gindex_0 r s n m c u0 u1 u2 u3))).toArray),
   .v (.int .i64 (vRead_1 (bitV (putV (V0 r s n m c mode) (gindex_0 r s n m c u0 u1 u2 u3) xs 0) u0 u1 u2 u3 bits bits.length) (gindex_0 r s n m c u0 u1 u2 u3))),
   .m (al 8),
   .m (ss 8),
   .v (.int .i64 (vRead_1 (bitV (putV (V0 r s n m c mode) (gindex_0 r s n m c u0 u1 u2 u3) xs 0) u0 u1 u2 u3 bits bits.length) (gindex_0 r s n m c u0 u1 u2 u3)))]) (fun q24 L => L.set 6 (.p (PkE (DevS ((q3 2).blk 0) (rdV (bitV (putV (V0 r s n m c mode) (gindex_0 r s n m c u0 u1 u2 u3) xs 0) u0 u1 u2 u3 bits bits.length) (gindex_0 r s n m c u0 u1 u2 u3))))) ++ [ob ((q24 6).blk 0) (rB 72 (vRead_0 (bitV (putV (V0 r s n m c mode) (gindex_0 r s n m c u0 u1 u2 u3) xs 0) u0 u1 u2 u3 bits bits.length) (gindex_0 r s n m c u0 u1 u2 u3))).toArray 41]) OW ?_
  clear OW; intro q24 _ Wq24 OW; simp only [↓pc, ↓pn, vE, Hint.val, Act.put, eL]
  gi_upto_region 18 with fail
  refine rg (fun q25 => [.v (.pointer (some ⟨((q3 2).blk 0), 0, none⟩)),
   .v (.int .i64 (gindex_0 r s n m c u0 u1 u2 u3)),
   .m (ls 4 (rB 72 xs)),
   .c [6] [6] (vWrite ((q3 2).blk 0) (rdV (bitV (putV (V0 r s n m c mode) (gindex_0 r s n m c u0 u1 u2 u3) xs 0) u0 u1 u2 u3 bits bits.length) (gindex_0 r s n m c u0 u1 u2 u3)) (gindex_0 r s n m c u0 u1 u2 u3) xs (by first | rfl | (simp only [List.length_set, List.length_append, List.length_replicate, List.length_cons, List.length_nil, List.length_map, List.length_range, List.length_take, List.length_drop, flipI_length, HBX, HGL, HRL1, HRL2, lx]; done) | (simp only [List.length_set, List.length_append, List.length_replicate, List.length_cons, List.length_nil, List.length_map, List.length_range, List.length_take, List.length_drop, flipI_length, HBX, HGL, HRL1, HRL2, lx]; omega)) (by first | exact HK0.ok (by decide) | exact HK3.ok (by decide)))]) (fun q25 L => L.set 6 (.p (PkE (DevS ((q3 2).blk 0) (putV (rdV (bitV (putV (V0 r s n m c mode) (gindex_0 r s n m c u0 u1 u2 u3) xs 0) u0 u1 u2 u3 bits bits.length) (gindex_0 r s n m c u0 u1 u2 u3)) (gindex_0 r s n m c u0 u1 u2 u3) xs 0))))) OW ?_
  clear OW; intro q25 _ Wq25 OW; simp only [↓pc, ↓pn, vE, Hint.val, Act.put, eL]
  gi_upto_region 19 with fail
  refine rg (fun q26 => [.v (.pointer (some ⟨((q3 2).blk 0), 0, none⟩)),
   .v (.int .i64 (gindex_0 r s n m c u0 u1 u2 u3)),
   .c [6] [6] (vRead ((q3 2).blk 0) (putV (rdV (bitV (putV (V0 r s n m c mode) (gindex_0 r s n m c u0 u1 u2 u3) xs 0) u0 u1 u2 u3 bits bits.length) (gindex_0 r s n m c u0 u1 u2 u3)) (gindex_0 r s n m c u0 u1 u2 u3) xs 0) (gindex_0 r s n m c u0 u1 u2 u3) (by first | exact (HKV bits.length).ok (by decide) | exact HK4.ok (by decide))),
   .v (.tuple #[.agg (rB 72 (vRead_0 (putV (rdV (bitV (putV (V0 r s n m c mode) (gindex_0 r s n m c u0 u1 u2 u3) xs 0) u0 u1 u2 u3 bits bits.length) (gindex_0 r s n m c u0 u1 u2 u3)) (gindex_0 r s n m c u0 u1 u2 u3) xs 0) (gindex_0 r s n m c u0 u1 u2 u3))).toArray, .int .i64 (vRead_1 (putV (rdV (bitV (putV (V0 r s n m c mode) (gindex_0 r s n m c u0 u1 u2 u3) xs 0) u0 u1 u2 u3 bits bits.length) (gindex_0 r s n m c u0 u1 u2 u3)) (gindex_0 r s n m c u0 u1 u2 u3) xs 0) (gindex_0 r s n m c u0 u1 u2 u3))]),
   .v (.agg (rB 72 (vRead_0 (putV (rdV (bitV (putV (V0 r s n m c mode) (gindex_0 r s n m c u0 u1 u2 u3) xs 0) u0 u1 u2 u3 bits bits.length) (gindex_0 r s n m c u0 u1 u2 u3)) (gindex_0 r s n m c u0 u1 u2 u3) xs 0) (gindex_0 r s n m c u0 u1 u2 u3))).toArray),
   .v (.int .i64 (vRead_1 (putV (rdV (bitV (putV (V0 r s n m c mode) (gindex_0 r s n m c u0 u1 u2 u3) xs 0) u0 u1 u2 u3 bits bits.length) (gindex_0 r s n m c u0 u1 u2 u3)) (gindex_0 r s n m c u0 u1 u2 u3) xs 0) (gindex_0 r s n m c u0 u1 u2 u3))),
   .m (al 9),
   .m (ss 9),
   .v (.int .i64 (vRead_1 (putV (rdV (bitV (putV (V0 r s n m c mode) (gindex_0 r s n m c u0 u1 u2 u3) xs 0) u0 u1 u2 u3 bits bits.length) (gindex_0 r s n m c u0 u1 u2 u3)) (gindex_0 r s n m c u0 u1 u2 u3) xs 0) (gindex_0 r s n m c u0 u1 u2 u3)))]) (fun q26 L => L.set 6 (.p (PkE (DevS ((q3 2).blk 0) (rdV (putV (rdV (bitV (putV (V0 r s n m c mode) (gindex_0 r s n m c u0 u1 u2 u3) xs 0) u0 u1 u2 u3 bits bits.length) (gindex_0 r s n m c u0 u1 u2 u3)) (gindex_0 r s n m c u0 u1 u2 u3) xs 0) (gindex_0 r s n m c u0 u1 u2 u3))))) ++ [ob ((q26 6).blk 0) (rB 72 (vRead_0 (putV (rdV (bitV (putV (V0 r s n m c mode) (gindex_0 r s n m c u0 u1 u2 u3) xs 0) u0 u1 u2 u3 bits bits.length) (gindex_0 r s n m c u0 u1 u2 u3)) (gindex_0 r s n m c u0 u1 u2 u3) xs 0) (gindex_0 r s n m c u0 u1 u2 u3))).toArray 41]) OW ?_
  clear OW; intro q26 _ Wq26 OW; simp only [↓pc, ↓pn, vE, Hint.val, Act.put, eL]
  gi_upto_region 20 with fail
  refine rg (fun q27 => [.m (al 10),
   .m (st 10)]) (fun q27 L => L ++ [ob ((q27 0).blk 0) #[.int .i64 0] 3]) OW ?_
  clear OW; intro q27 _ Wq27 OW; simp only [↓pc, ↓pn, vE, Hint.val, Act.put, eL]
  gi_upto_region 21 with fail
  refine rg (fun q28 => [.v (.pointer (some ⟨((q3 2).blk 0), 0, none⟩)),
   .c [] [11, 12] (vAccesses ((q3 2).blk 0) 1)]) (fun q28 L => L ++ [ob ((q28 1).blk 0) #[.int .i64 1] 3, ob ((q28 1).blk 1) #[.pointer (some ⟨((q3 2).blk 0), 0, none⟩)] 92]) OW ?_
  clear OW; intro q28 _ Wq28 OW; simp only [↓pc, ↓pn, vE, Hint.val, Act.put, eL]
  gi_wp2
  obtain ⟨bK29, hK30, OW1⟩ := OW.out.open 6 (by kernel_rfl)
  replace OW := Lib.hid (OwnE.cast (L' := [.c bs, ob ((q1 0).blk 0) #[.int .i64 r, .int .i64 s, .int .i64 n, .int .i64 m, .int .i64 c] 27, ob ((q1 1).blk 0) #[.int .i64 mode] 3, ob ((q1 2).blk 0) #[.int .i64 u0, .int .i64 u1, .int .i64 u2, .int .i64 u3] 23, ob ((q1 3).blk 0) (rB 72 xs).toArray 41, ob ((q1 4).blk 0) #[.bool false] 4, .c bK29, ob ((q12 1).blk 0) (rB 72 (bitX (putV (V0 r s n m c mode) (gindex_0 r s n m c u0 u1 u2 u3) xs 0) u0 u1 u2 u3 bits xs bits.length)).toArray 41, ob ((q24 6).blk 0) (rB 72 (vRead_0 (bitV (putV (V0 r s n m c mode) (gindex_0 r s n m c u0 u1 u2 u3) xs 0) u0 u1 u2 u3 bits bits.length) (gindex_0 r s n m c u0 u1 u2 u3))).toArray 41, ob ((q26 6).blk 0) (rB 72 (vRead_0 (putV (rdV (bitV (putV (V0 r s n m c mode) (gindex_0 r s n m c u0 u1 u2 u3) xs 0) u0 u1 u2 u3 bits bits.length) (gindex_0 r s n m c u0 u1 u2 u3)) (gindex_0 r s n m c u0 u1 u2 u3) xs 0) (gindex_0 r s n m c u0 u1 u2 u3))).toArray 41, ob ((q27 0).blk 0) #[.int .i64 0] 3, ob ((q28 1).blk 0) #[.int .i64 1] 3, ob ((q28 1).blk 1) #[.pointer (some ⟨((q3 2).blk 0), 0, none⟩)] 92]) OW1 (by kernel_rfl)); clear OW1
  refine reE_iter (n := 6) (by omega) (gf := 88) (lb := #[.pointer (some ⟨((q28 1).blk 0), 0, none⟩), .pointer (some ⟨((q28 1).blk 1), 0, none⟩)]) rfl (enters_of Try.func88 (by kernel_rfl) rfl) (encs := fun (i : Nat) => #[.int .i64 ((i : Nat) : Int), .agg #[.bool ((rdV (putV (rdV (bitV (putV (V0 r s n m c mode) (gindex_0 r s n m c u0 u1 u2 u3) xs 0) u0 u1 u2 u3 bits bits.length) (gindex_0 r s n m c u0 u1 u2 u3)) (gindex_0 r s n m c u0 u1 u2 u3) xs 0) (gindex_0 r s n m c u0 u1 u2 u3)).l.getD i zAc).wr, .int .i64 ((rdV (putV (rdV (bitV (putV (V0 r s n m c mode) (gindex_0 r s n m c u0 u1 u2 u3) xs 0) u0 u1 u2 u3 bits bits.length) (gindex_0 r s n m c u0 u1 u2 u3)) (gindex_0 r s n m c u0 u1 u2 u3) xs 0) (gindex_0 r s n m c u0 u1 u2 u3)).l.getD i zAc).index, .int .i64 ((rdV (putV (rdV (bitV (putV (V0 r s n m c mode) (gindex_0 r s n m c u0 u1 u2 u3) xs 0) u0 u1 u2 u3 bits bits.length) (gindex_0 r s n m c u0 u1 u2 u3)) (gindex_0 r s n m c u0 u1 u2 u3) xs 0) (gindex_0 r s n m c u0 u1 u2 u3)).l.getD i zAc).at_, .bool ((rdV (putV (rdV (bitV (putV (V0 r s n m c mode) (gindex_0 r s n m c u0 u1 u2 u3) xs 0) u0 u1 u2 u3 bits bits.length) (gindex_0 r s n m c u0 u1 u2 u3)) (gindex_0 r s n m c u0 u1 u2 u3) xs 0) (gindex_0 r s n m c u0 u1 u2 u3)).l.getD i zAc).drop, .int .i64 ((rdV (putV (rdV (bitV (putV (V0 r s n m c mode) (gindex_0 r s n m c u0 u1 u2 u3) xs 0) u0 u1 u2 u3 bits bits.length) (gindex_0 r s n m c u0 u1 u2 u3)) (gindex_0 r s n m c u0 u1 u2 u3) xs 0) (gindex_0 r s n m c u0 u1 u2 u3)).l.getD i zAc).expo, .bool ((rdV (putV (rdV (bitV (putV (V0 r s n m c mode) (gindex_0 r s n m c u0 u1 u2 u3) xs 0) u0 u1 u2 u3 bits bits.length) (gindex_0 r s n m c u0 u1 u2 u3)) (gindex_0 r s n m c u0 u1 u2 u3) xs 0) (gindex_0 r s n m c u0 u1 u2 u3)).l.getD i zAc).mark]]) (xs := (List.range ((rdV (putV (rdV (bitV (putV (V0 r s n m c mode) (gindex_0 r s n m c u0 u1 u2 u3) xs 0) u0 u1 u2 u3 bits bits.length) (gindex_0 r s n m c u0 u1 u2 u3)) (gindex_0 r s n m c u0 u1 u2 u3) xs 0) (gindex_0 r s n m c u0 u1 u2 u3)).l.length - fromN 1)).map (fun k => fromN 1 + k)) (KO := List.flatten [[(((q28 1).blk 0), .cells #[.int .i64 1] 3 (0, 0))], [(((q28 1).blk 1), .cells #[.pointer (some ⟨((q3 2).blk 0), 0, none⟩)] 92 (0, 0))], bK29]) (vAcc (6 - 1) (by omega) ((q28 1).blk 0) ((q28 1).blk 1) ((q3 2).blk 0) (rdV (putV (rdV (bitV (putV (V0 r s n m c mode) (gindex_0 r s n m c u0 u1 u2 u3) xs 0) u0 u1 u2 u3 bits bits.length) (gindex_0 r s n m c u0 u1 u2 u3)) (gindex_0 r s n m c u0 u1 u2 u3) xs 0) (gindex_0 r s n m c u0 u1 u2 u3)) 1 (bits_n HBT).2 bK29 hK30)
   (fun k3 Ls => k3 ≤ (rdV (putV (rdV (bitV (putV (V0 r s n m c mode) (gindex_0 r s n m c u0 u1 u2 u3) xs 0) u0 u1 u2 u3 bits bits.length) (gindex_0 r s n m c u0 u1 u2 u3)) (gindex_0 r s n m c u0 u1 u2 u3) xs 0) (gindex_0 r s n m c u0 u1 u2 u3)).l.length - fromN 1 ∧ Ls = [.c bs, ob ((q1 0).blk 0) #[.int .i64 r, .int .i64 s, .int .i64 n, .int .i64 m, .int .i64 c] 27, ob ((q1 1).blk 0) #[.int .i64 mode] 3, ob ((q1 2).blk 0) #[.int .i64 u0, .int .i64 u1, .int .i64 u2, .int .i64 u3] 23, ob ((q1 3).blk 0) (rB 72 xs).toArray 41, ob ((q1 4).blk 0) #[.bool false] 4, .c bK29, ob ((q12 1).blk 0) (rB 72 (bitX (putV (V0 r s n m c mode) (gindex_0 r s n m c u0 u1 u2 u3) xs 0) u0 u1 u2 u3 bits xs bits.length)).toArray 41, ob ((q24 6).blk 0) (rB 72 (vRead_0 (bitV (putV (V0 r s n m c mode) (gindex_0 r s n m c u0 u1 u2 u3) xs 0) u0 u1 u2 u3 bits bits.length) (gindex_0 r s n m c u0 u1 u2 u3))).toArray 41, ob ((q26 6).blk 0) (rB 72 (vRead_0 (putV (rdV (bitV (putV (V0 r s n m c mode) (gindex_0 r s n m c u0 u1 u2 u3) xs 0) u0 u1 u2 u3 bits bits.length) (gindex_0 r s n m c u0 u1 u2 u3)) (gindex_0 r s n m c u0 u1 u2 u3) xs 0) (gindex_0 r s n m c u0 u1 u2 u3))).toArray 41, ob ((q27 0).blk 0) #[.int .i64 (k3 : Int)] 3, ob ((q28 1).blk 0) #[.int .i64 1] 3, ob ((q28 1).blk 1) #[.pointer (some ⟨((q3 2).blk 0), 0, none⟩)] 92]) (fun _ _ _ => False) (Lib.hid (OwnE.cast (L' := [.c bs, ob ((q1 0).blk 0) #[.int .i64 r, .int .i64 s, .int .i64 n, .int .i64 m, .int .i64 c] 27, ob ((q1 1).blk 0) #[.int .i64 mode] 3, ob ((q1 2).blk 0) #[.int .i64 u0, .int .i64 u1, .int .i64 u2, .int .i64 u3] 23, ob ((q1 3).blk 0) (rB 72 xs).toArray 41, ob ((q1 4).blk 0) #[.bool false] 4, .c bK29, ob ((q12 1).blk 0) (rB 72 (bitX (putV (V0 r s n m c mode) (gindex_0 r s n m c u0 u1 u2 u3) xs 0) u0 u1 u2 u3 bits xs bits.length)).toArray 41, ob ((q24 6).blk 0) (rB 72 (vRead_0 (bitV (putV (V0 r s n m c mode) (gindex_0 r s n m c u0 u1 u2 u3) xs 0) u0 u1 u2 u3 bits bits.length) (gindex_0 r s n m c u0 u1 u2 u3))).toArray 41, ob ((q26 6).blk 0) (rB 72 (vRead_0 (putV (rdV (bitV (putV (V0 r s n m c mode) (gindex_0 r s n m c u0 u1 u2 u3) xs 0) u0 u1 u2 u3 bits bits.length) (gindex_0 r s n m c u0 u1 u2 u3)) (gindex_0 r s n m c u0 u1 u2 u3) xs 0) (gindex_0 r s n m c u0 u1 u2 u3))).toArray 41, ob ((q27 0).blk 0) #[.int .i64 ((0 : Nat) : Int)] 3, ob ((q28 1).blk 0) #[.int .i64 1] 3, ob ((q28 1).blk 1) #[.pointer (some ⟨((q3 2).blk 0), 0, none⟩)] 92]) OW.out (by skip; kernel_rfl))) ⟨Nat.zero_le _, rfl⟩ ?KOI31 ?KXI31 (OwnE.ndC (Os := [[(((q28 1).blk 0), .cells #[.int .i64 1] 3 (0, 0))], [(((q28 1).blk 1), .cells #[.pointer (some ⟨((q3 2).blk 0), 0, none⟩)] 92 (0, 0))], bK29]) (OwnE.pick OW.out [11, 12, 6] _ (by kernel_rfl))) (fun _ => rfl) ?roundI31 ?doneI31 ?stopI31
  case KOI31 => rintro k Ls ⟨_, rfl⟩; exact holds_at (Os := [[(((q28 1).blk 0), .cells #[.int .i64 1] 3 (0, 0))], [(((q28 1).blk 1), .cells #[.pointer (some ⟨((q3 2).blk 0), 0, none⟩)] 92 (0, 0))], bK29]) [11, 12, 6] (by kernel_rfl)
  case KXI31 => exact fun _ _ _ h => h.elim
  case roundI31 =>
   rintro lR k3 xE Ls R34 W32 hxE ⟨hk33, rfl⟩ OW
   simp only [putP0, putP1, putP2, eL]
   obtain ⟨hkb35, rfl⟩ := range_map_some hxE
   have HN3 := (bits_n HBT).1
   have HKQ := hkb35
   gi_upto_region 22 with fail
   refine rg (fun q36 => [.v (.int .i64 ((fromN 1 + k3 : Nat) : Int))]) (fun _ L => L) OW ?_
   clear OW; intro q36 _ Wq36 OW; simp only [↓pc, ↓pn, vE, Hint.val, Act.put, eL]
   gi_upto_region 23 with fail
   refine rg (fun q37 => [.m (al 13),
    .m (ss 13)]) (fun q37 L => L ++ [ob ((q37 0).blk 0) #[.bool (((rdV (putV (rdV (bitV (putV (V0 r s n m c mode) (gindex_0 r s n m c u0 u1 u2 u3) xs 0) u0 u1 u2 u3 bits bits.length) (gindex_0 r s n m c u0 u1 u2 u3)) (gindex_0 r s n m c u0 u1 u2 u3) xs 0) (gindex_0 r s n m c u0 u1 u2 u3)).l.getD (fromN 1 + k3) zAc).wr), .int .i64 (((rdV (putV (rdV (bitV (putV (V0 r s n m c mode) (gindex_0 r s n m c u0 u1 u2 u3) xs 0) u0 u1 u2 u3 bits bits.length) (gindex_0 r s n m c u0 u1 u2 u3)) (gindex_0 r s n m c u0 u1 u2 u3) xs 0) (gindex_0 r s n m c u0 u1 u2 u3)).l.getD (fromN 1 + k3) zAc).index), .int .i64 (((rdV (putV (rdV (bitV (putV (V0 r s n m c mode) (gindex_0 r s n m c u0 u1 u2 u3) xs 0) u0 u1 u2 u3 bits bits.length) (gindex_0 r s n m c u0 u1 u2 u3)) (gindex_0 r s n m c u0 u1 u2 u3) xs 0) (gindex_0 r s n m c u0 u1 u2 u3)).l.getD (fromN 1 + k3) zAc).at_), .bool (((rdV (putV (rdV (bitV (putV (V0 r s n m c mode) (gindex_0 r s n m c u0 u1 u2 u3) xs 0) u0 u1 u2 u3 bits bits.length) (gindex_0 r s n m c u0 u1 u2 u3)) (gindex_0 r s n m c u0 u1 u2 u3) xs 0) (gindex_0 r s n m c u0 u1 u2 u3)).l.getD (fromN 1 + k3) zAc).drop), .int .i64 (((rdV (putV (rdV (bitV (putV (V0 r s n m c mode) (gindex_0 r s n m c u0 u1 u2 u3) xs 0) u0 u1 u2 u3 bits bits.length) (gindex_0 r s n m c u0 u1 u2 u3)) (gindex_0 r s n m c u0 u1 u2 u3) xs 0) (gindex_0 r s n m c u0 u1 u2 u3)).l.getD (fromN 1 + k3) zAc).expo), .bool (((rdV (putV (rdV (bitV (putV (V0 r s n m c mode) (gindex_0 r s n m c u0 u1 u2 u3) xs 0) u0 u1 u2 u3 bits bits.length) (gindex_0 r s n m c u0 u1 u2 u3)) (gindex_0 r s n m c u0 u1 u2 u3) xs 0) (gindex_0 r s n m c u0 u1 u2 u3)).l.getD (fromN 1 + k3) zAc).mark)] 101]) OW ?_
   clear OW; intro q37 _ Wq37 OW; simp only [↓pc, ↓pn, vE, Hint.val, Act.put, eL]
   gi_wp2
   refine ⟨[.c bs, ob ((q1 0).blk 0) #[.int .i64 r, .int .i64 s, .int .i64 n, .int .i64 m, .int .i64 c] 27, ob ((q1 1).blk 0) #[.int .i64 mode] 3, ob ((q1 2).blk 0) #[.int .i64 u0, .int .i64 u1, .int .i64 u2, .int .i64 u3] 23, ob ((q1 3).blk 0) (rB 72 xs).toArray 41, ob ((q1 4).blk 0) #[.bool false] 4, .c bK29, ob ((q12 1).blk 0) (rB 72 (bitX (putV (V0 r s n m c mode) (gindex_0 r s n m c u0 u1 u2 u3) xs 0) u0 u1 u2 u3 bits xs bits.length)).toArray 41, ob ((q24 6).blk 0) (rB 72 (vRead_0 (bitV (putV (V0 r s n m c mode) (gindex_0 r s n m c u0 u1 u2 u3) xs 0) u0 u1 u2 u3 bits bits.length) (gindex_0 r s n m c u0 u1 u2 u3))).toArray 41, ob ((q26 6).blk 0) (rB 72 (vRead_0 (putV (rdV (bitV (putV (V0 r s n m c mode) (gindex_0 r s n m c u0 u1 u2 u3) xs 0) u0 u1 u2 u3 bits bits.length) (gindex_0 r s n m c u0 u1 u2 u3)) (gindex_0 r s n m c u0 u1 u2 u3) xs 0) (gindex_0 r s n m c u0 u1 u2 u3))).toArray 41, ob ((q27 0).blk 0) #[.int .i64 (k3 : Int)] 3, ob ((q28 1).blk 0) #[.int .i64 1] 3, ob ((q28 1).blk 1) #[.pointer (some ⟨((q3 2).blk 0), 0, none⟩)] 92, ob ((q37 0).blk 0) #[.bool (((rdV (putV (rdV (bitV (putV (V0 r s n m c mode) (gindex_0 r s n m c u0 u1 u2 u3) xs 0) u0 u1 u2 u3 bits bits.length) (gindex_0 r s n m c u0 u1 u2 u3)) (gindex_0 r s n m c u0 u1 u2 u3) xs 0) (gindex_0 r s n m c u0 u1 u2 u3)).l.getD (fromN 1 + k3) zAc).wr), .int .i64 (((rdV (putV (rdV (bitV (putV (V0 r s n m c mode) (gindex_0 r s n m c u0 u1 u2 u3) xs 0) u0 u1 u2 u3 bits bits.length) (gindex_0 r s n m c u0 u1 u2 u3)) (gindex_0 r s n m c u0 u1 u2 u3) xs 0) (gindex_0 r s n m c u0 u1 u2 u3)).l.getD (fromN 1 + k3) zAc).index), .int .i64 (((rdV (putV (rdV (bitV (putV (V0 r s n m c mode) (gindex_0 r s n m c u0 u1 u2 u3) xs 0) u0 u1 u2 u3 bits bits.length) (gindex_0 r s n m c u0 u1 u2 u3)) (gindex_0 r s n m c u0 u1 u2 u3) xs 0) (gindex_0 r s n m c u0 u1 u2 u3)).l.getD (fromN 1 + k3) zAc).at_), .bool (((rdV (putV (rdV (bitV (putV (V0 r s n m c mode) (gindex_0 r s n m c u0 u1 u2 u3) xs 0) u0 u1 u2 u3 bits bits.length) (gindex_0 r s n m c u0 u1 u2 u3)) (gindex_0 r s n m c u0 u1 u2 u3) xs 0) (gindex_0 r s n m c u0 u1 u2 u3)).l.getD (fromN 1 + k3) zAc).drop), .int .i64 (((rdV (putV (rdV (bitV (putV (V0 r s n m c mode) (gindex_0 r s n m c u0 u1 u2 u3) xs 0) u0 u1 u2 u3 bits bits.length) (gindex_0 r s n m c u0 u1 u2 u3)) (gindex_0 r s n m c u0 u1 u2 u3) xs 0) (gindex_0 r s n m c u0 u1 u2 u3)).l.getD (fromN 1 + k3) zAc).expo), .bool (((rdV (putV (rdV (bitV (putV (V0 r s n m c mode) (gindex_0 r s n m c u0 u1 u2 u3) xs 0) u0 u1 u2 u3 bits bits.length) (gindex_0 r s n m c u0 u1 u2 u3)) (gindex_0 r s n m c u0 u1 u2 u3) xs 0) (gindex_0 r s n m c u0 u1 u2 u3)).l.getD (fromN 1 + k3) zAc).mark)] 101], OW.out, holds_at (Os := [[(((q28 1).blk 0), .cells #[.int .i64 1] 3 (0, 0))], [(((q28 1).blk 1), .cells #[.pointer (some ⟨((q3 2).blk 0), 0, none⟩)] 92 (0, 0))], bK29]) [11, 12, 6] (by kernel_rfl), ?_⟩
   clear OW; intro R39 W38 OW
   gi_upto_region 24 with fail
   refine rg (fun q40 => [.v (.int .i64 ((fromN 1 + k3 : Nat) : Int)),
    .v (.bool (((fromN 1 + k3 : Nat) : Int) == 1)),
    .v (.bool (((fromN 1 + k3 : Nat) : Int) == 1)),
    .v (.pointer (some ⟨(q37 0).blk 0, 4, none⟩)),
    .m (ld 13 (.int .i64 (((rdV (putV (rdV (bitV (putV (V0 r s n m c mode) (gindex_0 r s n m c u0 u1 u2 u3) xs 0) u0 u1 u2 u3 bits bits.length) (gindex_0 r s n m c u0 u1 u2 u3)) (gindex_0 r s n m c u0 u1 u2 u3) xs 0) (gindex_0 r s n m c u0 u1 u2 u3)).l.getD (fromN 1 + k3) zAc).expo))),
    .m (ld 2 (.int .i64 mode)),
    .m (ls 7 (rB 72 (bitX (putV (V0 r s n m c mode) (gindex_0 r s n m c u0 u1 u2 u3) xs 0) u0 u1 u2 u3 bits xs bits.length))),
    .m (ls 4 (rB 72 xs)),
    .c [] [] (show Con _ 29 #[.int .i64 mode, .agg (rB 72 (bitX (putV (V0 r s n m c mode) (gindex_0 r s n m c u0 u1 u2 u3) xs 0) u0 u1 u2 u3 bits xs bits.length)).toArray, .agg (rB 72 xs).toArray] _ _ _ fun _ => .int .i64 ((expo mode (bitX (putV (V0 r s n m c mode) (gindex_0 r s n m c u0 u1 u2 u3) xs 0) u0 u1 u2 u3 bits xs bits.length) xs : Nat) : Int) from conB (enters_of Try.func29 (by kernel_rfl) rfl) fun w' => (by rw [rB_raw (n := 72) (xs := bitX (putV (V0 r s n m c mode) (gindex_0 r s n m c u0 u1 u2 u3) xs 0) u0 u1 u2 u3 bits xs bits.length) (show (bitX (putV (V0 r s n m c mode) (gindex_0 r s n m c u0 u1 u2 u3) xs 0) u0 u1 u2 u3 bits xs bits.length).length = 72 by first | rfl | (simp only [List.length_set, List.length_append, List.length_replicate, List.length_cons, List.length_nil, List.length_map, List.length_range, List.length_take, List.length_drop, flipI_length, HBX, HGL, HRL1, HRL2, lx]; done) | (simp only [List.length_set, List.length_append, List.length_replicate, List.length_cons, List.length_nil, List.length_map, List.length_range, List.length_take, List.length_drop, flipI_length, HBX, HGL, HRL1, HRL2, lx]; omega)), rB_raw (n := 72) (xs := xs) (show (xs).length = 72 by first | rfl | (simp only [List.length_set, List.length_append, List.length_replicate, List.length_cons, List.length_nil, List.length_map, List.length_range, List.length_take, List.length_drop, flipI_length, HBX, HGL, HRL1, HRL2, lx]; done) | (simp only [List.length_set, List.length_append, List.length_replicate, List.length_cons, List.length_nil, List.length_map, List.length_range, List.length_take, List.length_drop, flipI_length, HBX, HGL, HRL1, HRL2, lx]; omega))]; exact refExp_any mode (bitX (putV (V0 r s n m c mode) (gindex_0 r s n m c u0 u1 u2 u3) xs 0) u0 u1 u2 u3 bits xs bits.length) xs (by first | rfl | (simp only [List.length_set, List.length_append, List.length_replicate, List.length_cons, List.length_nil, List.length_map, List.length_range, List.length_take, List.length_drop, flipI_length, HBX, HGL, HRL1, HRL2, lx]; done) | (simp only [List.length_set, List.length_append, List.length_replicate, List.length_cons, List.length_nil, List.length_map, List.length_range, List.length_take, List.length_drop, flipI_length, HBX, HGL, HRL1, HRL2, lx]; omega)) (by first | rfl | (simp only [List.length_set, List.length_append, List.length_replicate, List.length_cons, List.length_nil, List.length_map, List.length_range, List.length_take, List.length_drop, flipI_length, HBX, HGL, HRL1, HRL2, lx]; done) | (simp only [List.length_set, List.length_append, List.length_replicate, List.length_cons, List.length_nil, List.length_map, List.length_range, List.length_take, List.length_drop, flipI_length, HBX, HGL, HRL1, HRL2, lx]; omega)) _)),
    .v (.bool ((((rdV (putV (rdV (bitV (putV (V0 r s n m c mode) (gindex_0 r s n m c u0 u1 u2 u3) xs 0) u0 u1 u2 u3 bits bits.length) (gindex_0 r s n m c u0 u1 u2 u3)) (gindex_0 r s n m c u0 u1 u2 u3) xs 0) (gindex_0 r s n m c u0 u1 u2 u3)).l.getD (fromN 1 + k3) zAc).expo) != ((expo mode (bitX (putV (V0 r s n m c mode) (gindex_0 r s n m c u0 u1 u2 u3) xs 0) u0 u1 u2 u3 bits xs bits.length) xs : Nat) : Int))),
    .k (.bool ((((fromN 1 + k3 : Nat) : Int) == 1) && ((((rdV (putV (rdV (bitV (putV (V0 r s n m c mode) (gindex_0 r s n m c u0 u1 u2 u3) xs 0) u0 u1 u2 u3 bits bits.length) (gindex_0 r s n m c u0 u1 u2 u3)) (gindex_0 r s n m c u0 u1 u2 u3) xs 0) (gindex_0 r s n m c u0 u1 u2 u3)).l.getD (fromN 1 + k3) zAc).expo) != ((expo mode (bitX (putV (V0 r s n m c mode) (gindex_0 r s n m c u0 u1 u2 u3) xs 0) u0 u1 u2 u3 bits xs bits.length) xs : Nat) : Int)))),
    .v (.bool ((((fromN 1 + k3 : Nat) : Int) == 1) && ((((rdV (putV (rdV (bitV (putV (V0 r s n m c mode) (gindex_0 r s n m c u0 u1 u2 u3) xs 0) u0 u1 u2 u3 bits bits.length) (gindex_0 r s n m c u0 u1 u2 u3)) (gindex_0 r s n m c u0 u1 u2 u3) xs 0) (gindex_0 r s n m c u0 u1 u2 u3)).l.getD (fromN 1 + k3) zAc).expo) != ((expo mode (bitX (putV (V0 r s n m c mode) (gindex_0 r s n m c u0 u1 u2 u3) xs 0) u0 u1 u2 u3 bits xs bits.length) xs : Nat) : Int)))),
    .v (.int .i64 ((fromN 1 + k3 : Nat) : Int)),
    .v (.bool (decide (1 < ((fromN 1 + k3 : Nat) : Int)))),
    .v (.bool (decide (1 < ((fromN 1 + k3 : Nat) : Int)))),
    .v (.pointer (some ⟨(q37 0).blk 0, 4, none⟩)),
    .m (ld 13 (.int .i64 (((rdV (putV (rdV (bitV (putV (V0 r s n m c mode) (gindex_0 r s n m c u0 u1 u2 u3) xs 0) u0 u1 u2 u3 bits bits.length) (gindex_0 r s n m c u0 u1 u2 u3)) (gindex_0 r s n m c u0 u1 u2 u3) xs 0) (gindex_0 r s n m c u0 u1 u2 u3)).l.getD (fromN 1 + k3) zAc).expo))),
    .v (.bool ((((rdV (putV (rdV (bitV (putV (V0 r s n m c mode) (gindex_0 r s n m c u0 u1 u2 u3) xs 0) u0 u1 u2 u3 bits bits.length) (gindex_0 r s n m c u0 u1 u2 u3)) (gindex_0 r s n m c u0 u1 u2 u3) xs 0) (gindex_0 r s n m c u0 u1 u2 u3)).l.getD (fromN 1 + k3) zAc).expo) != 0)),
    .k (.bool ((decide (1 < ((fromN 1 + k3 : Nat) : Int))) && ((((rdV (putV (rdV (bitV (putV (V0 r s n m c mode) (gindex_0 r s n m c u0 u1 u2 u3) xs 0) u0 u1 u2 u3 bits bits.length) (gindex_0 r s n m c u0 u1 u2 u3)) (gindex_0 r s n m c u0 u1 u2 u3) xs 0) (gindex_0 r s n m c u0 u1 u2 u3)).l.getD (fromN 1 + k3) zAc).expo) != 0))),
    .k (.bool (((((fromN 1 + k3 : Nat) : Int) == 1) && ((((rdV (putV (rdV (bitV (putV (V0 r s n m c mode) (gindex_0 r s n m c u0 u1 u2 u3) xs 0) u0 u1 u2 u3 bits bits.length) (gindex_0 r s n m c u0 u1 u2 u3)) (gindex_0 r s n m c u0 u1 u2 u3) xs 0) (gindex_0 r s n m c u0 u1 u2 u3)).l.getD (fromN 1 + k3) zAc).expo) != ((expo mode (bitX (putV (V0 r s n m c mode) (gindex_0 r s n m c u0 u1 u2 u3) xs 0) u0 u1 u2 u3 bits xs bits.length) xs : Nat) : Int))) || ((decide (1 < ((fromN 1 + k3 : Nat) : Int))) && ((((rdV (putV (rdV (bitV (putV (V0 r s n m c mode) (gindex_0 r s n m c u0 u1 u2 u3) xs 0) u0 u1 u2 u3 bits bits.length) (gindex_0 r s n m c u0 u1 u2 u3)) (gindex_0 r s n m c u0 u1 u2 u3) xs 0) (gindex_0 r s n m c u0 u1 u2 u3)).l.getD (fromN 1 + k3) zAc).expo) != 0))))]) (fun _ L => L) OW ?_
   clear OW; intro q40 _ Wq40 OW; simp only [↓pc, ↓pn, vE, Hint.val, Act.put, eL]
   cases hB41 : (((((fromN 1 + k3 : Nat) : Int) == 1) && ((((rdV (putV (rdV (bitV (putV (V0 r s n m c mode) (gindex_0 r s n m c u0 u1 u2 u3) xs 0) u0 u1 u2 u3 bits bits.length) (gindex_0 r s n m c u0 u1 u2 u3)) (gindex_0 r s n m c u0 u1 u2 u3) xs 0) (gindex_0 r s n m c u0 u1 u2 u3)).l.getD (fromN 1 + k3) zAc).expo) != ((expo mode (bitX (putV (V0 r s n m c mode) (gindex_0 r s n m c u0 u1 u2 u3) xs 0) u0 u1 u2 u3 bits xs bits.length) xs : Nat) : Int))) || ((decide (1 < ((fromN 1 + k3 : Nat) : Int))) && ((((rdV (putV (rdV (bitV (putV (V0 r s n m c mode) (gindex_0 r s n m c u0 u1 u2 u3) xs 0) u0 u1 u2 u3 bits bits.length) (gindex_0 r s n m c u0 u1 u2 u3)) (gindex_0 r s n m c u0 u1 u2 u3) xs 0) (gindex_0 r s n m c u0 u1 u2 u3)).l.getD (fromN 1 + k3) zAc).expo) != 0)))
   case true => exact absurd (hB41.symm.trans (show _ = false from by exact bits_ok HBT HKQ)) (by decide)
   case false =>
    gi_upto_region 26 with fail
    refine rg (fun q42 => [.m (ld 10 (.int .i64 (k3 : Int))),
     .t (tb (a := .int .i64 (k3 : Int)) (b := .int .i64 1) fun _ _ _ _ => bin_add_nat (a := k3) (b := 1) (by omega)),
     .m (st 10)]) (fun q42 L => L.set 10 (ob ((q27 0).blk 0) #[.int .i64 ((k3 + 1 : Nat) : Int)] 3)) OW ?_
    clear OW; intro q42 _ Wq42 OW; simp only [↓pc, ↓pn, vE, Hint.val, Act.put, eL]
    gi_wp2
    exact NextE.mk (L' := [.c bs, ob ((q1 0).blk 0) #[.int .i64 r, .int .i64 s, .int .i64 n, .int .i64 m, .int .i64 c] 27, ob ((q1 1).blk 0) #[.int .i64 mode] 3, ob ((q1 2).blk 0) #[.int .i64 u0, .int .i64 u1, .int .i64 u2, .int .i64 u3] 23, ob ((q1 3).blk 0) (rB 72 xs).toArray 41, ob ((q1 4).blk 0) #[.bool false] 4, .c bK29, ob ((q12 1).blk 0) (rB 72 (bitX (putV (V0 r s n m c mode) (gindex_0 r s n m c u0 u1 u2 u3) xs 0) u0 u1 u2 u3 bits xs bits.length)).toArray 41, ob ((q24 6).blk 0) (rB 72 (vRead_0 (bitV (putV (V0 r s n m c mode) (gindex_0 r s n m c u0 u1 u2 u3) xs 0) u0 u1 u2 u3 bits bits.length) (gindex_0 r s n m c u0 u1 u2 u3))).toArray 41, ob ((q26 6).blk 0) (rB 72 (vRead_0 (putV (rdV (bitV (putV (V0 r s n m c mode) (gindex_0 r s n m c u0 u1 u2 u3) xs 0) u0 u1 u2 u3 bits bits.length) (gindex_0 r s n m c u0 u1 u2 u3)) (gindex_0 r s n m c u0 u1 u2 u3) xs 0) (gindex_0 r s n m c u0 u1 u2 u3))).toArray 41, ob ((q27 0).blk 0) #[.int .i64 (((k3 + 1) : Nat) : Int)] 3, ob ((q28 1).blk 0) #[.int .i64 1] 3, ob ((q28 1).blk 1) #[.pointer (some ⟨((q3 2).blk 0), 0, none⟩)] 92]) OW [0, 1, 2, 3, 4, 5, 6, 7, 8, 9, 10, 11, 12] ⟨by omega, rfl⟩ (by skip; kernel_rfl)
  case stopI31 =>
   rintro D c k Ls W2 hi h; exact h.elim
  case doneI31 =>
   rintro D43 Ls W44 hR OW1
   rw [show ((List.range ((rdV (putV (rdV (bitV (putV (V0 r s n m c mode) (gindex_0 r s n m c u0 u1 u2 u3) xs 0) u0 u1 u2 u3 bits bits.length) (gindex_0 r s n m c u0 u1 u2 u3)) (gindex_0 r s n m c u0 u1 u2 u3) xs 0) (gindex_0 r s n m c u0 u1 u2 u3)).l.length - fromN 1)).map (fun k => fromN 1 + k)).length = (rdV (putV (rdV (bitV (putV (V0 r s n m c mode) (gindex_0 r s n m c u0 u1 u2 u3) xs 0) u0 u1 u2 u3 bits bits.length) (gindex_0 r s n m c u0 u1 u2 u3)) (gindex_0 r s n m c u0 u1 u2 u3) xs 0) (gindex_0 r s n m c u0 u1 u2 u3)).l.length - fromN 1 from by rw [List.length_map, List.length_range]] at hR
   obtain ⟨_, rfl⟩ := hR
   clear OW
   obtain ⟨R46, OC45, OW⟩ := Clo.markE (Clo.nil _ _) OW1.out
   clear OW1
   replace OW := Lib.hid (OwnE.cast (L' := [.c bs, ob ((q1 0).blk 0) #[.int .i64 r, .int .i64 s, .int .i64 n, .int .i64 m, .int .i64 c] 27, ob ((q1 1).blk 0) #[.int .i64 mode] 3, ob ((q1 2).blk 0) #[.int .i64 u0, .int .i64 u1, .int .i64 u2, .int .i64 u3] 23, ob ((q1 3).blk 0) (rB 72 xs).toArray 41, ob ((q1 4).blk 0) #[.bool false] 4, .p (PkE (DevS ((q3 2).blk 0) (rdV (putV (rdV (bitV (putV (V0 r s n m c mode) (gindex_0 r s n m c u0 u1 u2 u3) xs 0) u0 u1 u2 u3 bits bits.length) (gindex_0 r s n m c u0 u1 u2 u3)) (gindex_0 r s n m c u0 u1 u2 u3) xs 0) (gindex_0 r s n m c u0 u1 u2 u3)))), ob ((q12 1).blk 0) (rB 72 (bitX (putV (V0 r s n m c mode) (gindex_0 r s n m c u0 u1 u2 u3) xs 0) u0 u1 u2 u3 bits xs bits.length)).toArray 41, ob ((q24 6).blk 0) (rB 72 (vRead_0 (bitV (putV (V0 r s n m c mode) (gindex_0 r s n m c u0 u1 u2 u3) xs 0) u0 u1 u2 u3 bits bits.length) (gindex_0 r s n m c u0 u1 u2 u3))).toArray 41, ob ((q26 6).blk 0) (rB 72 (vRead_0 (putV (rdV (bitV (putV (V0 r s n m c mode) (gindex_0 r s n m c u0 u1 u2 u3) xs 0) u0 u1 u2 u3 bits bits.length) (gindex_0 r s n m c u0 u1 u2 u3)) (gindex_0 r s n m c u0 u1 u2 u3) xs 0) (gindex_0 r s n m c u0 u1 u2 u3))).toArray 41, ob ((q27 0).blk 0) #[.int .i64 ((((rdV (putV (rdV (bitV (putV (V0 r s n m c mode) (gindex_0 r s n m c u0 u1 u2 u3) xs 0) u0 u1 u2 u3 bits bits.length) (gindex_0 r s n m c u0 u1 u2 u3)) (gindex_0 r s n m c u0 u1 u2 u3) xs 0) (gindex_0 r s n m c u0 u1 u2 u3)).l.length - fromN 1) : Nat) : Int)] 3, ob ((q28 1).blk 0) #[.int .i64 1] 3, ob ((q28 1).blk 1) #[.pointer (some ⟨((q3 2).blk 0), 0, none⟩)] 92]) (OW.out.weak 6 (y := .p (PkE (DevS ((q3 2).blk 0) (rdV (putV (rdV (bitV (putV (V0 r s n m c mode) (gindex_0 r s n m c u0 u1 u2 u3) xs 0) u0 u1 u2 u3 bits bits.length) (gindex_0 r s n m c u0 u1 u2 u3)) (gindex_0 r s n m c u0 u1 u2 u3) xs 0) (gindex_0 r s n m c u0 u1 u2 u3))))) rfl (cP hK30)) (by kernel_rfl))
   gi_upto_region 27 with fail
   refine rg (fun q47 => [.m (ls 8 (rB 72 (vRead_0 (bitV (putV (V0 r s n m c mode) (gindex_0 r s n m c u0 u1 u2 u3) xs 0) u0 u1 u2 u3 bits bits.length) (gindex_0 r s n m c u0 u1 u2 u3)))),
    .m (ls 7 (rB 72 (bitX (putV (V0 r s n m c mode) (gindex_0 r s n m c u0 u1 u2 u3) xs 0) u0 u1 u2 u3 bits xs bits.length))),
    .t (tbT 41 fun _ _ _ => bin_eqT (xs := rB 72 (vRead_0 (bitV (putV (V0 r s n m c mode) (gindex_0 r s n m c u0 u1 u2 u3) xs 0) u0 u1 u2 u3 bits bits.length) (gindex_0 r s n m c u0 u1 u2 u3))) (ys := rB 72 (bitX (putV (V0 r s n m c mode) (gindex_0 r s n m c u0 u1 u2 u3) xs 0) u0 u1 u2 u3 bits xs bits.length)) (by kernel_rfl) (eqc_rB (show ((vRead_0 (bitV (putV (V0 r s n m c mode) (gindex_0 r s n m c u0 u1 u2 u3) xs 0) u0 u1 u2 u3 bits bits.length) (gindex_0 r s n m c u0 u1 u2 u3))).length = 72 by first | rfl | (simp only [List.length_set, List.length_append, List.length_replicate, List.length_cons, List.length_nil, List.length_map, List.length_range, List.length_take, List.length_drop, flipI_length, HBX, HGL, HRL1, HRL2, lx]; done) | (simp only [List.length_set, List.length_append, List.length_replicate, List.length_cons, List.length_nil, List.length_map, List.length_range, List.length_take, List.length_drop, flipI_length, HBX, HGL, HRL1, HRL2, lx]; omega)) (show (bitX (putV (V0 r s n m c mode) (gindex_0 r s n m c u0 u1 u2 u3) xs 0) u0 u1 u2 u3 bits xs bits.length).length = 72 by first | rfl | (simp only [List.length_set, List.length_append, List.length_replicate, List.length_cons, List.length_nil, List.length_map, List.length_range, List.length_take, List.length_drop, flipI_length, HBX, HGL, HRL1, HRL2, lx]; done) | (simp only [List.length_set, List.length_append, List.length_replicate, List.length_cons, List.length_nil, List.length_map, List.length_range, List.length_take, List.length_drop, flipI_length, HBX, HGL, HRL1, HRL2, lx]; omega)))),
    .v (.bool (decide ((vRead_0 (bitV (putV (V0 r s n m c mode) (gindex_0 r s n m c u0 u1 u2 u3) xs 0) u0 u1 u2 u3 bits bits.length) (gindex_0 r s n m c u0 u1 u2 u3)) = bitX (putV (V0 r s n m c mode) (gindex_0 r s n m c u0 u1 u2 u3) xs 0) u0 u1 u2 u3 bits xs bits.length))),
    .m (ls 9 (rB 72 (vRead_0 (putV (rdV (bitV (putV (V0 r s n m c mode) (gindex_0 r s n m c u0 u1 u2 u3) xs 0) u0 u1 u2 u3 bits bits.length) (gindex_0 r s n m c u0 u1 u2 u3)) (gindex_0 r s n m c u0 u1 u2 u3) xs 0) (gindex_0 r s n m c u0 u1 u2 u3)))),
    .m (ls 4 (rB 72 xs)),
    .t (tbT 41 fun _ _ _ => bin_eqT (xs := rB 72 (vRead_0 (putV (rdV (bitV (putV (V0 r s n m c mode) (gindex_0 r s n m c u0 u1 u2 u3) xs 0) u0 u1 u2 u3 bits bits.length) (gindex_0 r s n m c u0 u1 u2 u3)) (gindex_0 r s n m c u0 u1 u2 u3) xs 0) (gindex_0 r s n m c u0 u1 u2 u3))) (ys := rB 72 xs) (by kernel_rfl) (eqc_rB (show ((vRead_0 (putV (rdV (bitV (putV (V0 r s n m c mode) (gindex_0 r s n m c u0 u1 u2 u3) xs 0) u0 u1 u2 u3 bits bits.length) (gindex_0 r s n m c u0 u1 u2 u3)) (gindex_0 r s n m c u0 u1 u2 u3) xs 0) (gindex_0 r s n m c u0 u1 u2 u3))).length = 72 by first | rfl | (simp only [List.length_set, List.length_append, List.length_replicate, List.length_cons, List.length_nil, List.length_map, List.length_range, List.length_take, List.length_drop, flipI_length, HBX, HGL, HRL1, HRL2, lx]; done) | (simp only [List.length_set, List.length_append, List.length_replicate, List.length_cons, List.length_nil, List.length_map, List.length_range, List.length_take, List.length_drop, flipI_length, HBX, HGL, HRL1, HRL2, lx]; omega)) (show (xs).length = 72 by first | rfl | (simp only [List.length_set, List.length_append, List.length_replicate, List.length_cons, List.length_nil, List.length_map, List.length_range, List.length_take, List.length_drop, flipI_length, HBX, HGL, HRL1, HRL2, lx]; done) | (simp only [List.length_set, List.length_append, List.length_replicate, List.length_cons, List.length_nil, List.length_map, List.length_range, List.length_take, List.length_drop, flipI_length, HBX, HGL, HRL1, HRL2, lx]; omega)))),
    .k (.bool ((decide ((vRead_0 (bitV (putV (V0 r s n m c mode) (gindex_0 r s n m c u0 u1 u2 u3) xs 0) u0 u1 u2 u3 bits bits.length) (gindex_0 r s n m c u0 u1 u2 u3)) = bitX (putV (V0 r s n m c mode) (gindex_0 r s n m c u0 u1 u2 u3) xs 0) u0 u1 u2 u3 bits xs bits.length)) && (decide ((vRead_0 (putV (rdV (bitV (putV (V0 r s n m c mode) (gindex_0 r s n m c u0 u1 u2 u3) xs 0) u0 u1 u2 u3 bits bits.length) (gindex_0 r s n m c u0 u1 u2 u3)) (gindex_0 r s n m c u0 u1 u2 u3) xs 0) (gindex_0 r s n m c u0 u1 u2 u3)) = xs)))),
    .v (.bool ((decide ((vRead_0 (bitV (putV (V0 r s n m c mode) (gindex_0 r s n m c u0 u1 u2 u3) xs 0) u0 u1 u2 u3 bits bits.length) (gindex_0 r s n m c u0 u1 u2 u3)) = bitX (putV (V0 r s n m c mode) (gindex_0 r s n m c u0 u1 u2 u3) xs 0) u0 u1 u2 u3 bits xs bits.length)) && (decide ((vRead_0 (putV (rdV (bitV (putV (V0 r s n m c mode) (gindex_0 r s n m c u0 u1 u2 u3) xs 0) u0 u1 u2 u3 bits bits.length) (gindex_0 r s n m c u0 u1 u2 u3)) (gindex_0 r s n m c u0 u1 u2 u3) xs 0) (gindex_0 r s n m c u0 u1 u2 u3)) = xs)))),
    .m (ld 10 (.int .i64 ((((rdV (putV (rdV (bitV (putV (V0 r s n m c mode) (gindex_0 r s n m c u0 u1 u2 u3) xs 0) u0 u1 u2 u3 bits bits.length) (gindex_0 r s n m c u0 u1 u2 u3)) (gindex_0 r s n m c u0 u1 u2 u3) xs 0) (gindex_0 r s n m c u0 u1 u2 u3)).l.length - fromN 1) : Nat) : Int))),
    .v (.bool (((((rdV (putV (rdV (bitV (putV (V0 r s n m c mode) (gindex_0 r s n m c u0 u1 u2 u3) xs 0) u0 u1 u2 u3 bits bits.length) (gindex_0 r s n m c u0 u1 u2 u3)) (gindex_0 r s n m c u0 u1 u2 u3) xs 0) (gindex_0 r s n m c u0 u1 u2 u3)).l.length - fromN 1) : Nat) : Int) == 3)),
    .k (.bool (((decide ((vRead_0 (bitV (putV (V0 r s n m c mode) (gindex_0 r s n m c u0 u1 u2 u3) xs 0) u0 u1 u2 u3 bits bits.length) (gindex_0 r s n m c u0 u1 u2 u3)) = bitX (putV (V0 r s n m c mode) (gindex_0 r s n m c u0 u1 u2 u3) xs 0) u0 u1 u2 u3 bits xs bits.length)) && (decide ((vRead_0 (putV (rdV (bitV (putV (V0 r s n m c mode) (gindex_0 r s n m c u0 u1 u2 u3) xs 0) u0 u1 u2 u3 bits bits.length) (gindex_0 r s n m c u0 u1 u2 u3)) (gindex_0 r s n m c u0 u1 u2 u3) xs 0) (gindex_0 r s n m c u0 u1 u2 u3)) = xs))) && (((((rdV (putV (rdV (bitV (putV (V0 r s n m c mode) (gindex_0 r s n m c u0 u1 u2 u3) xs 0) u0 u1 u2 u3 bits bits.length) (gindex_0 r s n m c u0 u1 u2 u3)) (gindex_0 r s n m c u0 u1 u2 u3) xs 0) (gindex_0 r s n m c u0 u1 u2 u3)).l.length - fromN 1) : Nat) : Int) == 3))),
    .v (.bool (((decide ((vRead_0 (bitV (putV (V0 r s n m c mode) (gindex_0 r s n m c u0 u1 u2 u3) xs 0) u0 u1 u2 u3 bits bits.length) (gindex_0 r s n m c u0 u1 u2 u3)) = bitX (putV (V0 r s n m c mode) (gindex_0 r s n m c u0 u1 u2 u3) xs 0) u0 u1 u2 u3 bits xs bits.length)) && (decide ((vRead_0 (putV (rdV (bitV (putV (V0 r s n m c mode) (gindex_0 r s n m c u0 u1 u2 u3) xs 0) u0 u1 u2 u3 bits bits.length) (gindex_0 r s n m c u0 u1 u2 u3)) (gindex_0 r s n m c u0 u1 u2 u3) xs 0) (gindex_0 r s n m c u0 u1 u2 u3)) = xs))) && (((((rdV (putV (rdV (bitV (putV (V0 r s n m c mode) (gindex_0 r s n m c u0 u1 u2 u3) xs 0) u0 u1 u2 u3 bits bits.length) (gindex_0 r s n m c u0 u1 u2 u3)) (gindex_0 r s n m c u0 u1 u2 u3) xs 0) (gindex_0 r s n m c u0 u1 u2 u3)).l.length - fromN 1) : Nat) : Int) == 3))),
    .v (.pointer (some ⟨((q3 2).blk 0), 0, none⟩)),
    .v (.int .i64 (gindex_0 r s n m c u0 u1 u2 u3)),
    .c [6] [] (vGhost ((q3 2).blk 0) (rdV (putV (rdV (bitV (putV (V0 r s n m c mode) (gindex_0 r s n m c u0 u1 u2 u3) xs 0) u0 u1 u2 u3 bits bits.length) (gindex_0 r s n m c u0 u1 u2 u3)) (gindex_0 r s n m c u0 u1 u2 u3) xs 0) (gindex_0 r s n m c u0 u1 u2 u3)) (gindex_0 r s n m c u0 u1 u2 u3)),
    .m (ls 4 (rB 72 xs)),
    .t (tbT 41 fun _ _ _ => bin_eqT (xs := rB 72 ((rdV (putV (rdV (bitV (putV (V0 r s n m c mode) (gindex_0 r s n m c u0 u1 u2 u3) xs 0) u0 u1 u2 u3 bits bits.length) (gindex_0 r s n m c u0 u1 u2 u3)) (gindex_0 r s n m c u0 u1 u2 u3) xs 0) (gindex_0 r s n m c u0 u1 u2 u3)).ghost (gindex_0 r s n m c u0 u1 u2 u3))) (ys := rB 72 xs) (by kernel_rfl) (eqc_rB (show (((rdV (putV (rdV (bitV (putV (V0 r s n m c mode) (gindex_0 r s n m c u0 u1 u2 u3) xs 0) u0 u1 u2 u3 bits bits.length) (gindex_0 r s n m c u0 u1 u2 u3)) (gindex_0 r s n m c u0 u1 u2 u3) xs 0) (gindex_0 r s n m c u0 u1 u2 u3)).ghost (gindex_0 r s n m c u0 u1 u2 u3))).length = 72 by first | rfl | (simp only [List.length_set, List.length_append, List.length_replicate, List.length_cons, List.length_nil, List.length_map, List.length_range, List.length_take, List.length_drop, flipI_length, HBX, HGL, HRL1, HRL2, lx]; done) | (simp only [List.length_set, List.length_append, List.length_replicate, List.length_cons, List.length_nil, List.length_map, List.length_range, List.length_take, List.length_drop, flipI_length, HBX, HGL, HRL1, HRL2, lx]; omega)) (show (xs).length = 72 by first | rfl | (simp only [List.length_set, List.length_append, List.length_replicate, List.length_cons, List.length_nil, List.length_map, List.length_range, List.length_take, List.length_drop, flipI_length, HBX, HGL, HRL1, HRL2, lx]; done) | (simp only [List.length_set, List.length_append, List.length_replicate, List.length_cons, List.length_nil, List.length_map, List.length_range, List.length_take, List.length_drop, flipI_length, HBX, HGL, HRL1, HRL2, lx]; omega)))),
    .k (.bool ((((decide ((vRead_0 (bitV (putV (V0 r s n m c mode) (gindex_0 r s n m c u0 u1 u2 u3) xs 0) u0 u1 u2 u3 bits bits.length) (gindex_0 r s n m c u0 u1 u2 u3)) = bitX (putV (V0 r s n m c mode) (gindex_0 r s n m c u0 u1 u2 u3) xs 0) u0 u1 u2 u3 bits xs bits.length)) && (decide ((vRead_0 (putV (rdV (bitV (putV (V0 r s n m c mode) (gindex_0 r s n m c u0 u1 u2 u3) xs 0) u0 u1 u2 u3 bits bits.length) (gindex_0 r s n m c u0 u1 u2 u3)) (gindex_0 r s n m c u0 u1 u2 u3) xs 0) (gindex_0 r s n m c u0 u1 u2 u3)) = xs))) && (((((rdV (putV (rdV (bitV (putV (V0 r s n m c mode) (gindex_0 r s n m c u0 u1 u2 u3) xs 0) u0 u1 u2 u3 bits bits.length) (gindex_0 r s n m c u0 u1 u2 u3)) (gindex_0 r s n m c u0 u1 u2 u3) xs 0) (gindex_0 r s n m c u0 u1 u2 u3)).l.length - fromN 1) : Nat) : Int) == 3)) && (decide (((rdV (putV (rdV (bitV (putV (V0 r s n m c mode) (gindex_0 r s n m c u0 u1 u2 u3) xs 0) u0 u1 u2 u3 bits bits.length) (gindex_0 r s n m c u0 u1 u2 u3)) (gindex_0 r s n m c u0 u1 u2 u3) xs 0) (gindex_0 r s n m c u0 u1 u2 u3)).ghost (gindex_0 r s n m c u0 u1 u2 u3)) = xs)))),
    .m (st 5)]) (fun q47 L => L.set 5 (ob ((q1 4).blk 0) #[.bool ((((decide ((vRead_0 (bitV (putV (V0 r s n m c mode) (gindex_0 r s n m c u0 u1 u2 u3) xs 0) u0 u1 u2 u3 bits bits.length) (gindex_0 r s n m c u0 u1 u2 u3)) = bitX (putV (V0 r s n m c mode) (gindex_0 r s n m c u0 u1 u2 u3) xs 0) u0 u1 u2 u3 bits xs bits.length)) && (decide ((vRead_0 (putV (rdV (bitV (putV (V0 r s n m c mode) (gindex_0 r s n m c u0 u1 u2 u3) xs 0) u0 u1 u2 u3 bits bits.length) (gindex_0 r s n m c u0 u1 u2 u3)) (gindex_0 r s n m c u0 u1 u2 u3) xs 0) (gindex_0 r s n m c u0 u1 u2 u3)) = xs))) && (((((rdV (putV (rdV (bitV (putV (V0 r s n m c mode) (gindex_0 r s n m c u0 u1 u2 u3) xs 0) u0 u1 u2 u3 bits bits.length) (gindex_0 r s n m c u0 u1 u2 u3)) (gindex_0 r s n m c u0 u1 u2 u3) xs 0) (gindex_0 r s n m c u0 u1 u2 u3)).l.length - fromN 1) : Nat) : Int) == 3)) && (decide (((rdV (putV (rdV (bitV (putV (V0 r s n m c mode) (gindex_0 r s n m c u0 u1 u2 u3) xs 0) u0 u1 u2 u3 bits bits.length) (gindex_0 r s n m c u0 u1 u2 u3)) (gindex_0 r s n m c u0 u1 u2 u3) xs 0) (gindex_0 r s n m c u0 u1 u2 u3)).ghost (gindex_0 r s n m c u0 u1 u2 u3)) = xs)))] 4)) OW ?_
   clear OW; intro q47 _ Wq47 OW; simp only [↓pc, ↓pn, vE, Hint.val, Act.put, eL]
   gi_wp2
   exact leafM HS HH OC45 OW [.c (.bool ((((decide ((vRead_0 (bitV (putV (V0 r s n m c mode) (gindex_0 r s n m c u0 u1 u2 u3) xs 0) u0 u1 u2 u3 bits bits.length) (gindex_0 r s n m c u0 u1 u2 u3)) = bitX (putV (V0 r s n m c mode) (gindex_0 r s n m c u0 u1 u2 u3) xs 0) u0 u1 u2 u3 bits xs bits.length)) && (decide ((vRead_0 (putV (rdV (bitV (putV (V0 r s n m c mode) (gindex_0 r s n m c u0 u1 u2 u3) xs 0) u0 u1 u2 u3 bits bits.length) (gindex_0 r s n m c u0 u1 u2 u3)) (gindex_0 r s n m c u0 u1 u2 u3) xs 0) (gindex_0 r s n m c u0 u1 u2 u3)) = xs))) && (((((rdV (putV (rdV (bitV (putV (V0 r s n m c mode) (gindex_0 r s n m c u0 u1 u2 u3) xs 0) u0 u1 u2 u3 bits bits.length) (gindex_0 r s n m c u0 u1 u2 u3)) (gindex_0 r s n m c u0 u1 u2 u3) xs 0) (gindex_0 r s n m c u0 u1 u2 u3)).l.length - fromN 1) : Nat) : Int) == 3)) && (decide (((rdV (putV (rdV (bitV (putV (V0 r s n m c mode) (gindex_0 r s n m c u0 u1 u2 u3) xs 0) u0 u1 u2 u3 bits bits.length) (gindex_0 r s n m c u0 u1 u2 u3)) (gindex_0 r s n m c u0 u1 u2 u3) xs 0) (gindex_0 r s n m c u0 u1 u2 u3)).ghost (gindex_0 r s n m c u0 u1 u2 u3)) = xs)))) 5] Env.zero [] [(0, 0)] (by first | rfl | exact congrArg Value.bool (bits_fin HBT))
set_option maxRecDepth 100000 in
set_option maxHeartbeats 1000000 in
theorem vbitsG (r s n m c mode u0 u1 u2 u3 : Int) (xs : List UInt8) (lx : xs.length = 72) (v : Value) (bits : List Int) (bs : Objs) (h : SrE eI v bits bs) (hg : gright r s n m c = false) : Con Try.prog 13 #[.agg #[.int .i64 r, .int .i64 s, .int .i64 n, .int .i64 m, .int .i64 c], .int .i64 mode, .agg #[.int .i64 u0, .int .i64 u1, .int .i64 u2, .int .i64 u3], .agg (rB 72 xs).toArray, v] [.c bs] [] (fun _ => []) (fun _ => .bool true) := by
 refine Con.of (enters_of Try.func13 (by kernel_rfl) rfl) fun w cs HS HH OW => ?_
 refine (callsIn_wide (n := 6)).1 ?_
 refine callsIn_of_wp_marks Try.func13 rfl trivial ?_ rfl
 simp only [Try.ntmps13, eF, Nat.reduceAdd, Nat.reduceSub]
 gi_upto_region 0 with fail
 refine rg (fun q1 => [.m (bx 1),
  .m (bx 2),
  .m (bx 3),
  .m (bx 4),
  .m (al 5)]) (fun q1 L => L ++ [ob ((q1 0).blk 0) #[.int .i64 r, .int .i64 s, .int .i64 n, .int .i64 m, .int .i64 c] 27, ob ((q1 1).blk 0) #[.int .i64 mode] 3, ob ((q1 2).blk 0) #[.int .i64 u0, .int .i64 u1, .int .i64 u2, .int .i64 u3] 23, ob ((q1 3).blk 0) (rB 72 xs).toArray 41, ob ((q1 4).blk 0) #[.bool false] 4]) OW ?_
 clear OW; intro q1 _ Wq1 OW; simp only [↓pc, ↓pn, vE, Hint.val, Act.put, eL]
 gi_upto_region 1 with fail
 refine rg (fun q2 => [.c [] [] (vanchor),
  .v (.bool false)]) (fun _ L => L) OW ?_
 clear OW; intro q2 _ Wq2 OW; simp only [↓pc, ↓pn, vE, Hint.val, Act.put, eL]
 gi_upto_region 3 with fail
 refine rg (fun q3 => [.m (ls 1 ([.int .i64 r, .int .i64 s, .int .i64 n, .int .i64 m, .int .i64 c])),
  .m (ld 2 (.int .i64 mode)),
  .c [] [] (vNewG r s n m c mode hg),
  .v (.tuple #[.pointer none, .int .i64 20]),
  .v (.pointer none),
  .v (.int .i64 20),
  .v (.pointer none),
  .v (.int .i64 20)]) (fun _ L => L) OW ?_
 clear OW; intro q3 _ Wq3 OW; simp only [↓pc, ↓pn, vE, Hint.val, Act.put, eL]
 gi_upto_region 4 with fail
 refine rg (fun q4 => [.v (.int .i64 20),
  .v (.bool true),
  .v (.bool true),
  .d (.bool false),
  .d (.bool false),
  .k (.bool true),
  .v (.bool true),
  .d (.bool false),
  .d (.bool false),
  .d (.bool false),
  .k (.bool true)]) (fun _ L => L) OW ?_
 clear OW; intro q4 _ Wq4 OW; simp only [↓pc, ↓pn, vE, Hint.val, Act.put, eL]
 gi_upto_region 5 with fail
 refine rg (fun q5 => [.v (.pointer none),
  .v (.bool true),
  .v (.bool true),
  .d (.bool false),
  .d (.bool false),
  .d (.bool false),
  .k (.bool true),
  .m (st 5)]) (fun q5 L => L.set 5 (ob ((q1 4).blk 0) #[.bool true] 4)) OW ?_
 clear OW; intro q5 _ Wq5 OW; simp only [↓pc, ↓pn, vE, Hint.val, Act.put, eL]
 gi_wp2
 exact leafE HS HH OW [.c (.bool true) 5] Env.zero [] [(0, 0)] rfl
set_option maxRecDepth 100000 in
set_option maxHeartbeats 1000000 in
theorem vbitsM (r s n m c mode u0 u1 u2 u3 : Int) (xs : List UInt8) (lx : xs.length = 72) (v : Value) (bits : List Int) (bs : Objs) (h : SrE eI v bits bs) (hg : gright r s n m c = true) (hm : rightB mode = false) : Con Try.prog 13 #[.agg #[.int .i64 r, .int .i64 s, .int .i64 n, .int .i64 m, .int .i64 c], .int .i64 mode, .agg #[.int .i64 u0, .int .i64 u1, .int .i64 u2, .int .i64 u3], .agg (rB 72 xs).toArray, v] [.c bs] [] (fun _ => []) (fun _ => .bool true) := by
 refine Con.of (enters_of Try.func13 (by kernel_rfl) rfl) fun w cs HS HH OW => ?_
 refine (callsIn_wide (n := 6)).1 ?_
 refine callsIn_of_wp_marks Try.func13 rfl trivial ?_ rfl
 simp only [Try.ntmps13, eF, Nat.reduceAdd, Nat.reduceSub]
 gi_upto_region 0 with fail
 refine rg (fun q1 => [.m (bx 1),
  .m (bx 2),
  .m (bx 3),
  .m (bx 4),
  .m (al 5)]) (fun q1 L => L ++ [ob ((q1 0).blk 0) #[.int .i64 r, .int .i64 s, .int .i64 n, .int .i64 m, .int .i64 c] 27, ob ((q1 1).blk 0) #[.int .i64 mode] 3, ob ((q1 2).blk 0) #[.int .i64 u0, .int .i64 u1, .int .i64 u2, .int .i64 u3] 23, ob ((q1 3).blk 0) (rB 72 xs).toArray 41, ob ((q1 4).blk 0) #[.bool false] 4]) OW ?_
 clear OW; intro q1 _ Wq1 OW; simp only [↓pc, ↓pn, vE, Hint.val, Act.put, eL]
 gi_upto_region 1 with fail
 refine rg (fun q2 => [.c [] [] (vanchor),
  .v (.bool false)]) (fun _ L => L) OW ?_
 clear OW; intro q2 _ Wq2 OW; simp only [↓pc, ↓pn, vE, Hint.val, Act.put, eL]
 gi_upto_region 3 with fail
 refine rg (fun q3 => [.m (ls 1 ([.int .i64 r, .int .i64 s, .int .i64 n, .int .i64 m, .int .i64 c])),
  .m (ld 2 (.int .i64 mode)),
  .c [] [] (vNewM r s n m c mode hg hm),
  .v (.tuple #[.pointer none, .int .i64 21]),
  .v (.pointer none),
  .v (.int .i64 21),
  .v (.pointer none),
  .v (.int .i64 21)]) (fun _ L => L) OW ?_
 clear OW; intro q3 _ Wq3 OW; simp only [↓pc, ↓pn, vE, Hint.val, Act.put, eL]
 gi_upto_region 4 with fail
 refine rg (fun q4 => [.v (.int .i64 21),
  .v (.bool true),
  .v (.bool true),
  .d (.bool false),
  .d (.bool false),
  .k (.bool true),
  .v (.bool true),
  .d (.bool false),
  .d (.bool false),
  .d (.bool false),
  .k (.bool true)]) (fun _ L => L) OW ?_
 clear OW; intro q4 _ Wq4 OW; simp only [↓pc, ↓pn, vE, Hint.val, Act.put, eL]
 gi_upto_region 5 with fail
 refine rg (fun q5 => [.v (.pointer none),
  .v (.bool true),
  .v (.bool true),
  .d (.bool false),
  .d (.bool false),
  .d (.bool false),
  .k (.bool true),
  .m (st 5)]) (fun q5 L => L.set 5 (ob ((q1 4).blk 0) #[.bool true] 4)) OW ?_
 clear OW; intro q5 _ Wq5 OW; simp only [↓pc, ↓pn, vE, Hint.val, Act.put, eL]
 gi_wp2
 exact leafE HS HH OW [.c (.bool true) 5] Env.zero [] [(0, 0)] rfl
end Go.Proofs.Ytckhkagkpldoiaa.E
