/- The statement RsChecks: its walk. -/
import Derived.Test.YtdgflbbffimpkaaRsI
import Derived.Test.YtdgflbbffimpkaaRsK
import Derived.Test.YtdgflbbffimpkaaArrO
namespace Go.Proofs.Ytdgflbbffimpkaa
open Go.RowKit Go.Shelf
attribute [local go_sem] Oper.semAt_some
set_option linter.unusedVariables false
set_option linter.unusedSimpArgs false

section
variable {P : Program} {w : World} {o : Oper} {ρ : Operand → Value}
theorem run_lenO {T : TypeId} {x : Operand} (ho : o.op = .call { callee := .builtin .len, args := #[x], argTypes := #[T] }) {A : Option Addr} {n c : Nat} (hx : ρ x = .slice A n c) (h : P.underlying T = some (.slice (P.elem T))) : (execOp ρ o).run P w = .ok (.value (.int .i64 n)) w := by
  have hr := fun ty => run_len_slice (P := P) (w := w) T ty A n c h
  simp [execOp, ho, resolve, invoke, builtin, hx, hr, goInt, Result.andThen]
theorem eqT {X : Sem Value} {p q : List UInt8} (h : X.run P w = .ok (.bool (decide (p = q))) w) (e : p = q) : X.run P w = .ok (.bool true) w := by rw [h, decide_eq_true e]
theorem neF {X : Sem Value} {p q : List UInt8} (h : X.run P w = .ok (.bool (!decide (p = q))) w) (e : p = q) : X.run P w = .ok (.bool false) w := by rw [h, decide_eq_true e]; rfl
end
theorem rmul48 (w : World) : Calls Try.prog 23 #[.int .u8 4, .int .u8 8] w fun e w' => e = .returned (.int .u8 32) ∧ w = w' := by
  have h := rmul_any 4 8 w
  rw [show gm 4 8 = 32 by decide +kernel] at h
  exact h
theorem rmul232 (w : World) : Calls Try.prog 23 #[.int .u8 2, .int .u8 32] w fun e w' => e = .returned (.int .u8 64) ∧ w = w' := by
  have h := rmul_any 2 32 w
  rw [show gm 2 32 = 64 by decide +kernel] at h
  exact h
theorem gen_c0 (rest : List Value) : (rowV genL rest)[0]? = some (.int .u8 64) := by rw [genL_eq]; rfl
theorem gen_c4 (rest : List Value) : (rowV genL rest)[4]? = some (.int .u8 1) := by rw [genL_eq]; rfl

set_option maxRecDepth 100000 in
set_option maxHeartbeats 1000000 in
theorem RsChecks_any (d v u : List UInt8) (hd : d.length = 32) (hv : v.length = 3) (hu : u.length = 36) (w : World) : Calls Try.prog 9 #[.agg (rawV d), .agg (rawV v), .agg (rawV u)] w fun e w' => e = .returned (.bool true) ∧ Below w.heap.size w w' := by
  obtain ⟨b0, hb0⟩ : ∃ b0, w.heap.size = b0 := ⟨_, rfl⟩
  have HB0 := Lib.hid hb0
  have OW := Lib.hid (Own.start b0 w)
  have OZ := Lib.hid (And.intro hb0 (Nat.le_refl b0))
  clear hb0
  have HD := Lib.hid hd
  have HV := Lib.hid hv
  have HU := Lib.hid hu
  have HK := Lib.hid (show valsL (wordL d v ++ v) = List.replicate 4 0 by rw [valsL_syn, syn_word d v hd hv])
  have HS := Lib.hid (valsL_syn u v).symm
  clear hd hv hu
  refine (callsIn_wide (n := 6)).1 ?_
  refine callsIn_of_wp_marks Try.func9 rfl trivial ?_ rfl
  simp only [Try.ntmps9, List.size_toArray, List.length_cons, List.length_nil, Nat.reduceAdd, Nat.reduceSub, Array.replicate_succ, Array.replicate_zero, List.push_toArray, List.append_toArray, List.nil_append, List.cons_append]
  gi_upto_region 1 with (first | (refine own_boxV 3 32 (.tmp 0) rfl rfl rfl (.agg (rawV d)) rfl (rawV d) rfl OW OZ ?_; clear OW OZ; intro W g1 OW OZ) | (refine own_boxV 4 24 (.tmp 1) rfl rfl rfl (.agg (rawV v)) rfl (rawV v) rfl OW OZ ?_; clear OW OZ; intro W g2 OW OZ) | (refine own_boxV 5 23 (.tmp 2) rfl rfl rfl (.agg (rawV u)) rfl (rawV u) rfl OW OZ ?_; clear OW OZ; intro W g3 OW OZ))
  gi_wp2_with fail
  refine ⟨trivial, ?_⟩
  refine (callsIn_wide.2 (coded_any _)).mono ?_
  rintro e Wg ⟨cb, fb, gb, rest, rfl, hO⟩
  have OW1 := Lib.hid (Own.join OW.out (by rw [OZ.out.1]; exact OZ.out.2) hO)
  clear OW OZ hO
  have OW := OW1
  clear OW1
  obtain ⟨grg4, OZ⟩ := own_size OW HB0
  have HCODE := Lib.hid (fun (L : Objs) (V : World) (h : Own b0 w L V) (h1 : L[3]? = some (fb, Obj.cells fieldCells 68 (0, 0))) (h2 : L[4]? = some (gb, Obj.cells (rowV genL rest) 5 (0, 0))) (h3 : L[5]? = some (cb, Obj.cells #[.pointer (some ⟨fb, 0, none⟩), .slice (some ⟨gb, 0, none⟩) 5 (5 + rest.length)] 59 (0, 0))) => CodeAt.mk3 h h1 h2 h3)
  gi_upto_region 2 with fail
  refine wpIn_region_heldL 2 (atD [[], [0]]) (atV [fun vH _ => vH = .pointer (some ⟨cb, 0, none⟩), fun vH _ => vH = .bool false]) BelowR (by kernel_rfl) BelowR.trans (BelowR.refl _)
    (StV.atV (.const _ (.const _ .nil)))
    ⟨?o5x0, ?o5x1, trivial⟩ ?_
  case o5x0 =>
    exact held_move free_wide rfl BelowR.refl (.tmp 7) (.inl rfl) fun xH w' kH _ => (pO (by kernel_rfl) rfl)
  case o5x1 =>
    exact held_run free_wide rfl (by rfl) BelowR.refl fun xH w' kH hR => ⟨_, run_binO rfl (pT 0 (by kernel_rfl) (by kernel_rfl) (kH 0 (by decide))) rfl (by kernel_rfl), rfl⟩
  intro xH w' hv hR
  have h0 : xH 0 = _ := hv 0 (by omega)
  have h1 : xH 1 = _ := hv 1 (by omega)
  simp only [List.take_succ_cons, List.take_zero, List.drop_succ_cons, List.drop_zero, putsH, Act.put, List.setIfInBounds_toArray, List.set_cons_succ, List.set_cons_zero, h0, h1]
  have OW2 := Lib.hid (OW.out.step hR)
  clear hv hR OW OZ h0 h1
  have OW := OW2
  clear OW2
  obtain ⟨g6, OZ⟩ := own_size OW HB0
  gi_upto_region 4 with fail
  refine wpIn_region_held 9 (atD [[], [], [], [0, 1, 2], [], [3, 4], [5], [], [6, 7]]) (atV [fun vH _ => vH = .pointer (some ⟨cb, 0, none⟩), fun vH _ => vH = .agg (rawV d), fun vH _ => vH = .agg (rawV v), fun vH _ => vH = .agg (rawV (wordL d v)), fun vH _ => vH = .agg (rawV v), fun vH _ => vH = .agg (rawV ((wordL d v) ++ v)), fun vH _ => vH = .agg (rawV [evalL ((wordL d v) ++ v) 1, evalL ((wordL d v) ++ v) 2, evalL ((wordL d v) ++ v) 4, evalL ((wordL d v) ++ v) 8]), fun vH _ => vH = .agg (rawV (List.replicate 4 0)), fun vH _ => vH = .bool false]) BelowR (by kernel_rfl) (by kernel_rfl) BelowR.trans (BelowR.drew _)
    (StV.atV (.const _ (.const _ (.const _ (.const _ (.const _ (.const _ (.const _ (.const _ (.const _ .nil))))))))))
    ⟨?o7x0, ?o7x1, ?o7x2, ?o7x3, ?o7x4, ?o7x5, ?o7x6, ?o7x7, ?o7x8, trivial⟩ ?_
  case o7x0 =>
    exact held_move free_wide rfl BelowR.refl (.tmp 7) (.inl rfl) fun xH w' kH _ => (pO (by kernel_rfl) rfl)
  case o7x1 =>
    exact held_load free_wide rfl BelowR.refl 32 (.tmp 3) rfl fun xH w' kH hR => ⟨_, _, (pO (by kernel_rfl) rfl), ldR OW hR 0 rfl Try.underlying32 rfl (arJ32 (show (d).length = 32 from HD.out)), rfl⟩
  case o7x2 =>
    exact held_load free_wide rfl BelowR.refl 24 (.tmp 4) rfl fun xH w' kH hR => ⟨_, _, (pO (by kernel_rfl) rfl), ldR OW hR 1 rfl Try.underlying24 rfl (arJ3 (show (v).length = 3 from HV.out)), rfl⟩
  case o7x3 =>
    refine held_call free_wide rfl 16 _ _ rfl (enters_of Try.func16 (by kernel_rfl) rfl) fun xH w' kH hR => ⟨_, mapE3 (pT 0 (by kernel_rfl) (by kernel_rfl) (kH 0 (by decide))) (pT 1 (by kernel_rfl) (by kernel_rfl) (kH 1 (by decide))) (pT 2 (by kernel_rfl) (by kernel_rfl) (kH 2 (by decide))), ?_⟩
    refine (callsIn_wide.2 (word_any cb fb d v (HD.out) (HV.out) _ (HCODE.out _ _ (OW.out.step hR) rfl rfl rfl))).mono ?_
    rintro e w2 ⟨rfl, h2⟩
    exact ⟨_, rfl, rfl, h2⟩
  case o7x4 =>
    exact held_load free_wide rfl BelowR.refl 24 (.tmp 4) rfl fun xH w' kH hR => ⟨_, _, (pO (by kernel_rfl) rfl), ldR OW hR 1 rfl Try.underlying24 rfl (arJ3 (show (v).length = 3 from HV.out)), rfl⟩
  case o7x5 =>
    refine held_call free_wide rfl 15 _ _ rfl (enters_of Try.func15 (by kernel_rfl) rfl) fun xH w' kH hR => ⟨_, mapE2 (pT 3 (by kernel_rfl) (by kernel_rfl) (kH 3 (by decide))) (pT 4 (by kernel_rfl) (by kernel_rfl) (kH 4 (by decide))), ?_⟩
    refine (callsIn_wide.2 (refWord_any (wordL d v) v (by simp only [wordL_len, synL_len, List.length_append, Nat.reduceAdd, HD.out, HV.out, HU.out]) (HV.out) _)).mono ?_
    rintro e w2 ⟨rfl, h2⟩
    exact ⟨_, rfl, rfl, h2⟩
  case o7x6 =>
    refine held_call free_wide rfl 14 _ _ rfl (enters_of Try.func14 (by kernel_rfl) rfl) fun xH w' kH hR => ⟨_, mapE1 (pT 5 (by kernel_rfl) (by kernel_rfl) (kH 5 (by decide))), ?_⟩
    refine (callsIn_wide.2 (refValues_any ((wordL d v) ++ v) (by simp only [wordL_len, synL_len, List.length_append, Nat.reduceAdd, HD.out, HV.out, HU.out]) _)).mono ?_
    rintro e w2 ⟨rfl, h2⟩
    exact ⟨_, rfl, rfl, h2⟩
  case o7x7 =>
    exact held_run free_wide rfl (by rfl) BelowR.refl fun xH w' kH hR => ⟨_, run_buildO rfl (mapB0) _ (by kernel_rfl), rfl⟩
  case o7x8 =>
    exact held_run free_wide rfl (by rfl) BelowR.refl fun xH w' kH hR => ⟨_, run_binO rfl (pT 6 (by kernel_rfl) (by kernel_rfl) (kH 6 (by decide))) (pT 7 (by kernel_rfl) (by kernel_rfl) (kH 7 (by decide))) (neF (neq_ar4 _ _ rfl (List.length_replicate) _ _ _) HK.out), rfl⟩
  intro xH w' hv hR
  have h0 : xH 0 = _ := hv 0 (by omega)
  have h1 : xH 1 = _ := hv 1 (by omega)
  have h2 : xH 2 = _ := hv 2 (by omega)
  have h3 : xH 3 = _ := hv 3 (by omega)
  have h4 : xH 4 = _ := hv 4 (by omega)
  have h5 : xH 5 = _ := hv 5 (by omega)
  have h6 : xH 6 = _ := hv 6 (by omega)
  have h7 : xH 7 = _ := hv 7 (by omega)
  have h8 : xH 8 = _ := hv 8 (by omega)
  simp only [List.take_succ_cons, List.take_zero, List.drop_succ_cons, List.drop_zero, putsH, Act.put, List.setIfInBounds_toArray, List.set_cons_succ, List.set_cons_zero, h0, h1, h2, h3, h4, h5, h6, h7, h8]
  have OW2 := Lib.hid (OW.out.step hR)
  clear hv hR OW OZ h0 h1 h2 h3 h4 h5 h6 h7 h8
  have OW := OW2
  clear OW2
  obtain ⟨g8, OZ⟩ := own_size OW HB0
  gi_upto_region 6 with fail
  gi_wp2_with fail
  refine ⟨trivial, ?_⟩
  refine (callsIn_wide.2 (gen_any cb fb _ (HCODE.out _ _ OW.out rfl rfl rfl))).mono ?_
  rintro e Wh ⟨gg, rest2, rfl, hO⟩
  have OW1 := Lib.hid (Own.join OW.out (by rw [OZ.out.1]; exact OZ.out.2) hO)
  clear OW OZ hO
  have OW := OW1
  clear OW1
  obtain ⟨grg9, OZ⟩ := own_size OW HB0
  gi_upto_region 7 with fail
  refine wpIn_region_held 29 (atD [[], [], [], [0, 1, 2], [], [], [4, 5], [6], [3, 7], [8], [9], [9, 10], [9, 11], [9, 12], [13], [14], [14, 15], [14, 16], [14, 17], [14, 18], [19], [20], [20, 21], [20, 22], [20], [20, 24], [20, 23, 25], [20, 26], [27]]) (atV [fun vH _ => vH = .pointer (some ⟨cb, 0, none⟩), fun vH _ => vH = .agg (rawV u), fun vH _ => vH = .agg (rawV v), fun vH _ => vH = .agg (rawV (synL u v)), fun vH _ => vH = .agg (rawV u), fun vH _ => vH = .agg (rawV v), fun vH _ => vH = .agg (rawV (u ++ v)), fun vH _ => vH = .agg (rawV [evalL (u ++ v) 1, evalL (u ++ v) 2, evalL (u ++ v) 4, evalL (u ++ v) 8]), fun vH _ => vH = .bool true, fun vH _ => vH = .bool true, fun vH _ => vH = .slice (some ⟨gg, 0, none⟩) 5 (5 + rest2.length), fun vH _ => vH = .int .i64 5, fun vH _ => vH = .bool true, fun vH _ => vH = .bool true, fun vH _ => vH = .bool true, fun vH _ => vH = .slice (some ⟨gg, 0, none⟩) 5 (5 + rest2.length), fun vH _ => vH = .pointer (some ⟨gg, 4, none⟩), fun vH _ => vH = .int .u8 1, fun vH _ => vH = .bool true, fun vH _ => vH = .bool true, fun vH _ => vH = .bool true, fun vH _ => vH = .slice (some ⟨gg, 0, none⟩) 5 (5 + rest2.length), fun vH _ => vH = .pointer (some ⟨gg, 0, none⟩), fun vH _ => vH = .int .u8 64, fun vH _ => vH = .int .u8 32, fun vH _ => vH = .int .u8 64, fun vH _ => vH = .bool true, fun vH _ => vH = .bool true, fun vH _ => vH = .bool true]) BelowR (by kernel_rfl) (by kernel_rfl) BelowR.trans (BelowR.drew _)
    (StV.atV (.const _ (.const _ (.const _ (.const _ (.const _ (.const _ (.const _ (.const _ (.const _ (.const _ (.const _ (.const _ (.const _ (.const _ (.const _ (.const _ (.const _ (.const _ (.const _ (.const _ (.const _ (.const _ (.const _ (.const _ (.const _ (.const _ (.const _ (.const _ (.const _ .nil))))))))))))))))))))))))))))))
    ⟨?o10x0, ?o10x1, ?o10x2, ?o10x3, ?o10x4, ?o10x5, ?o10x6, ?o10x7, ?o10x8, ?o10x9, ?o10x10, ?o10x11, ?o10x12, ?o10x13, ?o10x14, ?o10x15, ?o10x16, ?o10x17, ?o10x18, ?o10x19, ?o10x20, ?o10x21, ?o10x22, ?o10x23, ?o10x24, ?o10x25, ?o10x26, ?o10x27, ?o10x28, trivial⟩ ?_
  case o10x0 =>
    exact held_move free_wide rfl BelowR.refl (.tmp 7) (.inl rfl) fun xH w' kH _ => (pO (by kernel_rfl) rfl)
  case o10x1 =>
    exact held_load free_wide rfl BelowR.refl 23 (.tmp 5) rfl fun xH w' kH hR => ⟨_, _, (pO (by kernel_rfl) rfl), ldR OW hR 2 rfl Try.underlying23 rfl (arJ36 (show (u).length = 36 from HU.out)), rfl⟩
  case o10x2 =>
    exact held_load free_wide rfl BelowR.refl 24 (.tmp 4) rfl fun xH w' kH hR => ⟨_, _, (pO (by kernel_rfl) rfl), ldR OW hR 1 rfl Try.underlying24 rfl (arJ3 (show (v).length = 3 from HV.out)), rfl⟩
  case o10x3 =>
    refine held_call free_wide rfl 20 _ _ rfl (enters_of Try.func20 (by kernel_rfl) rfl) fun xH w' kH hR => ⟨_, mapE3 (pT 0 (by kernel_rfl) (by kernel_rfl) (kH 0 (by decide))) (pT 1 (by kernel_rfl) (by kernel_rfl) (kH 1 (by decide))) (pT 2 (by kernel_rfl) (by kernel_rfl) (kH 2 (by decide))), ?_⟩
    refine (callsIn_wide.2 (synd_any cb fb u v (HU.out) (HV.out) _ (HCODE.out _ _ (OW.out.step hR) rfl rfl rfl))).mono ?_
    rintro e w2 ⟨rfl, h2⟩
    exact ⟨_, rfl, rfl, h2⟩
  case o10x4 =>
    exact held_load free_wide rfl BelowR.refl 23 (.tmp 5) rfl fun xH w' kH hR => ⟨_, _, (pO (by kernel_rfl) rfl), ldR OW hR 2 rfl Try.underlying23 rfl (arJ36 (show (u).length = 36 from HU.out)), rfl⟩
  case o10x5 =>
    exact held_load free_wide rfl BelowR.refl 24 (.tmp 4) rfl fun xH w' kH hR => ⟨_, _, (pO (by kernel_rfl) rfl), ldR OW hR 1 rfl Try.underlying24 rfl (arJ3 (show (v).length = 3 from HV.out)), rfl⟩
  case o10x6 =>
    refine held_call free_wide rfl 15 _ _ rfl (enters_of Try.func15 (by kernel_rfl) rfl) fun xH w' kH hR => ⟨_, mapE2 (pT 4 (by kernel_rfl) (by kernel_rfl) (kH 4 (by decide))) (pT 5 (by kernel_rfl) (by kernel_rfl) (kH 5 (by decide))), ?_⟩
    refine (callsIn_wide.2 (refWord_any u v (HU.out) (HV.out) _)).mono ?_
    rintro e w2 ⟨rfl, h2⟩
    exact ⟨_, rfl, rfl, h2⟩
  case o10x7 =>
    refine held_call free_wide rfl 14 _ _ rfl (enters_of Try.func14 (by kernel_rfl) rfl) fun xH w' kH hR => ⟨_, mapE1 (pT 6 (by kernel_rfl) (by kernel_rfl) (kH 6 (by decide))), ?_⟩
    refine (callsIn_wide.2 (refValues_any (u ++ v) (by simp only [wordL_len, synL_len, List.length_append, Nat.reduceAdd, HD.out, HV.out, HU.out]) _)).mono ?_
    rintro e w2 ⟨rfl, h2⟩
    exact ⟨_, rfl, rfl, h2⟩
  case o10x8 =>
    exact held_run free_wide rfl (by rfl) BelowR.refl fun xH w' kH hR => ⟨_, run_binO rfl (pT 3 (by kernel_rfl) (by kernel_rfl) (kH 3 (by decide))) (pT 7 (by kernel_rfl) (by kernel_rfl) (kH 7 (by decide))) (eqT (eq_ar4 _ _ (synL_len u v) rfl _ _ _) HS.out), rfl⟩
  case o10x9 =>
    exact held_move free_wide rfl BelowR.refl (.tmp 31) (.inl rfl) fun xH w' kH _ => (pT 8 (by kernel_rfl) (by kernel_rfl) (kH 8 (by decide)))
  case o10x10 =>
    exact held_moveG free_wide (heldGd_some 9 32 true rfl (by kernel_rfl) (by kernel_rfl) (by kernel_rfl) (fun xH w' kH => kH 9 (by decide))) BelowR.refl (.tmp 8) (.inl rfl) fun xH w' kH _ => (pO (by kernel_rfl) rfl)
  case o10x11 =>
    exact held_runG free_wide (heldGd_some 9 32 true rfl (by kernel_rfl) (by kernel_rfl) (by kernel_rfl) (fun xH w' kH => kH 9 (by decide))) (by rfl) BelowR.refl fun xH w' kH hR => ⟨_, run_lenO rfl (pT 10 (by kernel_rfl) (by kernel_rfl) (kH 10 (by decide))) (by kernel_rfl), rfl⟩
  case o10x12 =>
    exact held_runG free_wide (heldGd_some 9 32 true rfl (by kernel_rfl) (by kernel_rfl) (by kernel_rfl) (fun xH w' kH => kH 9 (by decide))) (by rfl) BelowR.refl fun xH w' kH hR => ⟨_, run_binO rfl (pT 11 (by kernel_rfl) (by kernel_rfl) (kH 11 (by decide))) rfl (by kernel_rfl), rfl⟩
  case o10x13 =>
    exact held_run free_wide rfl (by rfl) BelowR.refl fun xH w' kH hR => ⟨_, run_pickT rfl (pT 9 (by kernel_rfl) (by kernel_rfl) (kH 9 (by decide))) (pT 12 (by kernel_rfl) (by kernel_rfl) (kH 12 (by decide))), rfl⟩
  case o10x14 =>
    exact held_move free_wide rfl BelowR.refl (.tmp 36) (.inl rfl) fun xH w' kH _ => (pT 13 (by kernel_rfl) (by kernel_rfl) (kH 13 (by decide)))
  case o10x15 =>
    exact held_moveG free_wide (heldGd_some 14 37 true rfl (by kernel_rfl) (by kernel_rfl) (by kernel_rfl) (fun xH w' kH => kH 14 (by decide))) BelowR.refl (.tmp 8) (.inl rfl) fun xH w' kH _ => (pO (by kernel_rfl) rfl)
  case o10x16 =>
    exact held_runG free_wide (heldGd_some 14 37 true rfl (by kernel_rfl) (by kernel_rfl) (by kernel_rfl) (fun xH w' kH => kH 14 (by decide))) (by rfl) BelowR.refl fun xH w' kH hR => ⟨_, run_idxO (vx := .slice (some ⟨gg, 0, none⟩) 5 (5 + rest2.length)) rfl (pT 15 (by kernel_rfl) (by kernel_rfl) (kH 15 (by decide))) rfl (by kernel_rfl), rfl⟩
  case o10x17 =>
    exact held_loadG free_wide (heldGd_some 14 37 true rfl (by kernel_rfl) (by kernel_rfl) (by kernel_rfl) (fun xH w' kH => kH 14 (by decide))) BelowR.refl 5 (.tmp 39) rfl fun xH w' kH hR => ⟨_, _, (pT 16 (by kernel_rfl) (by kernel_rfl) (kH 16 (by decide))), run_loadVar_cell (naU8 _) (((((OW.out.step hR)).blk (k := 6) rfl).cell 4).trans (gen_c4 rest2)), rfl⟩
  case o10x18 =>
    exact held_runG free_wide (heldGd_some 14 37 true rfl (by kernel_rfl) (by kernel_rfl) (by kernel_rfl) (fun xH w' kH => kH 14 (by decide))) (by rfl) BelowR.refl fun xH w' kH hR => ⟨_, run_binO rfl (pT 17 (by kernel_rfl) (by kernel_rfl) (kH 17 (by decide))) rfl (by kernel_rfl), rfl⟩
  case o10x19 =>
    exact held_run free_wide rfl (by rfl) BelowR.refl fun xH w' kH hR => ⟨_, run_pickT rfl (pT 14 (by kernel_rfl) (by kernel_rfl) (kH 14 (by decide))) (pT 18 (by kernel_rfl) (by kernel_rfl) (kH 18 (by decide))), rfl⟩
  case o10x20 =>
    exact held_move free_wide rfl BelowR.refl (.tmp 42) (.inl rfl) fun xH w' kH _ => (pT 19 (by kernel_rfl) (by kernel_rfl) (kH 19 (by decide)))
  case o10x21 =>
    exact held_moveG free_wide (heldGd_some 20 43 true rfl (by kernel_rfl) (by kernel_rfl) (by kernel_rfl) (fun xH w' kH => kH 20 (by decide))) BelowR.refl (.tmp 8) (.inl rfl) fun xH w' kH _ => (pO (by kernel_rfl) rfl)
  case o10x22 =>
    exact held_runG free_wide (heldGd_some 20 43 true rfl (by kernel_rfl) (by kernel_rfl) (by kernel_rfl) (fun xH w' kH => kH 20 (by decide))) (by rfl) BelowR.refl fun xH w' kH hR => ⟨_, run_idxO (vx := .slice (some ⟨gg, 0, none⟩) 5 (5 + rest2.length)) rfl (pT 21 (by kernel_rfl) (by kernel_rfl) (kH 21 (by decide))) rfl (by kernel_rfl), rfl⟩
  case o10x23 =>
    exact held_loadG free_wide (heldGd_some 20 43 true rfl (by kernel_rfl) (by kernel_rfl) (by kernel_rfl) (fun xH w' kH => kH 20 (by decide))) BelowR.refl 5 (.tmp 45) rfl fun xH w' kH hR => ⟨_, _, (pT 22 (by kernel_rfl) (by kernel_rfl) (kH 22 (by decide))), run_loadVar_cell (naU8 _) (((((OW.out.step hR)).blk (k := 6) rfl).cell 0).trans (gen_c0 rest2)), rfl⟩
  case o10x24 =>
    refine held_callG free_wide (heldGd_some 20 43 true rfl (by kernel_rfl) (by kernel_rfl) (by kernel_rfl) (fun xH w' kH => kH 20 (by decide))) 23 _ _ rfl (enters_of Try.func23 (by kernel_rfl) rfl) fun xH w' kH hR => ⟨_, mapE2 rfl rfl, ?_⟩
    refine (callsIn_wide.2 (rmul48 _)).mono ?_
    rintro e w2 ⟨rfl, rfl⟩
    exact ⟨_, rfl, rfl, BelowR.refl _⟩
  case o10x25 =>
    refine held_callG free_wide (heldGd_some 20 43 true rfl (by kernel_rfl) (by kernel_rfl) (by kernel_rfl) (fun xH w' kH => kH 20 (by decide))) 23 _ _ rfl (enters_of Try.func23 (by kernel_rfl) rfl) fun xH w' kH hR => ⟨_, mapE2 rfl (pT 24 (by kernel_rfl) (by kernel_rfl) (kH 24 (by decide))), ?_⟩
    refine (callsIn_wide.2 (rmul232 _)).mono ?_
    rintro e w2 ⟨rfl, rfl⟩
    exact ⟨_, rfl, rfl, BelowR.refl _⟩
  case o10x26 =>
    exact held_runG free_wide (heldGd_some 20 43 true rfl (by kernel_rfl) (by kernel_rfl) (by kernel_rfl) (fun xH w' kH => kH 20 (by decide))) (by rfl) BelowR.refl fun xH w' kH hR => ⟨_, run_binO rfl (pT 23 (by kernel_rfl) (by kernel_rfl) (kH 23 (by decide))) (pT 25 (by kernel_rfl) (by kernel_rfl) (kH 25 (by decide))) (by kernel_rfl), rfl⟩
  case o10x27 =>
    exact held_run free_wide rfl (by rfl) BelowR.refl fun xH w' kH hR => ⟨_, run_pickT rfl (pT 20 (by kernel_rfl) (by kernel_rfl) (kH 20 (by decide))) (pT 26 (by kernel_rfl) (by kernel_rfl) (kH 26 (by decide))), rfl⟩
  case o10x28 =>
    exact held_move free_wide rfl BelowR.refl (.tmp 50) (.inr rfl) fun xH w' kH _ => (pT 27 (by kernel_rfl) (by kernel_rfl) (kH 27 (by decide)))
  intro xH w' hv hR
  have h0 : xH 0 = _ := hv 0 (by omega)
  have h1 : xH 1 = _ := hv 1 (by omega)
  have h2 : xH 2 = _ := hv 2 (by omega)
  have h3 : xH 3 = _ := hv 3 (by omega)
  have h4 : xH 4 = _ := hv 4 (by omega)
  have h5 : xH 5 = _ := hv 5 (by omega)
  have h6 : xH 6 = _ := hv 6 (by omega)
  have h7 : xH 7 = _ := hv 7 (by omega)
  have h8 : xH 8 = _ := hv 8 (by omega)
  have h9 : xH 9 = _ := hv 9 (by omega)
  have h10 : xH 10 = _ := hv 10 (by omega)
  have h11 : xH 11 = _ := hv 11 (by omega)
  have h12 : xH 12 = _ := hv 12 (by omega)
  have h13 : xH 13 = _ := hv 13 (by omega)
  have h14 : xH 14 = _ := hv 14 (by omega)
  have h15 : xH 15 = _ := hv 15 (by omega)
  have h16 : xH 16 = _ := hv 16 (by omega)
  have h17 : xH 17 = _ := hv 17 (by omega)
  have h18 : xH 18 = _ := hv 18 (by omega)
  have h19 : xH 19 = _ := hv 19 (by omega)
  have h20 : xH 20 = _ := hv 20 (by omega)
  have h21 : xH 21 = _ := hv 21 (by omega)
  have h22 : xH 22 = _ := hv 22 (by omega)
  have h23 : xH 23 = _ := hv 23 (by omega)
  have h24 : xH 24 = _ := hv 24 (by omega)
  have h25 : xH 25 = _ := hv 25 (by omega)
  have h26 : xH 26 = _ := hv 26 (by omega)
  have h27 : xH 27 = _ := hv 27 (by omega)
  have h28 : xH 28 = _ := hv 28 (by omega)
  simp only [List.take_succ_cons, List.take_zero, List.drop_succ_cons, List.drop_zero, putsH, Act.put, List.setIfInBounds_toArray, List.set_cons_succ, List.set_cons_zero, h0, h1, h2, h3, h4, h5, h6, h7, h8, h9, h10, h11, h12, h13, h14, h15, h16, h17, h18, h19, h20, h21, h22, h23, h24, h25, h26, h27, h28]
  have OW2 := Lib.hid (OW.out.step hR)
  clear hv hR OW OZ h0 h1 h2 h3 h4 h5 h6 h7 h8 h9 h10 h11 h12 h13 h14 h15 h16 h17 h18 h19 h20 h21 h22 h23 h24 h25 h26 h27 h28
  have OW := OW2
  clear OW2
  obtain ⟨g11, OZ⟩ := own_size OW HB0
  gi_wp2
  refine leaves_own [] _ (Nat.le_of_eq HB0.out) (by simpa using OW.out) ?_
  intro W' hO
  exact ⟨.bool true, by simp [results, Try.results9, go_sem], rfl, hO.done HB0⟩
end Go.Proofs.Ytdgflbbffimpkaa
