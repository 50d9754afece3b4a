/- rs: decoding: a walk. -/
import Derived.Test.YtdgflbbffimpkaaRsD
import Derived.Laws.Cover3
namespace Go.Proofs.Ytdgflbbffimpkaa
open Go.RowKit Go.Shelf
attribute [local go_sem] Oper.semAt_some
set_option linter.unusedVariables false
set_option linter.unusedSimpArgs false

section
variable {P : Program} {w : World} {o : Oper} {ρ : Operand → Value}
theorem run_s2aO {T : TypeId} {x : Operand} (ho : o.op = .sliceToArrayPointer T x) {vx v : Value} (hx : ρ x = vx) (hr : (Instr.arrayAt T vx).run P w = .ok v w) : (execOp ρ o).run P w = .ok (.value v) w := by
  unfold execOp
  simp only [ho, hx, Sem.run_bind, hr, Result.andThen_ok, Sem.run_pure]
end
/-- All blocks but g are kept; g holds what it held, or o. -/
structure RowR (g : Nat) (o : Obj) (x y : World) : Prop where
  os : y.os = x.os
  tape : y.tape = x.tape
  output : y.output = x.output
  size : x.heap.size ≤ y.heap.size
  far : ∀ b, b < x.heap.size → b ≠ g → y.heap[b]? = x.heap[b]?
  alt : y.heap[g]? = x.heap[g]? ∨ y.heap[g]? = some o
section
variable {g : Nat} {o : Obj} {x y z w w' W W' : World} {B : Nat} {base : World} {L : Objs}
theorem RowR.trans (x y z : World) (h : RowR g o x y) (k : RowR g o y z) : RowR g o x z :=
  ⟨k.os.trans h.os, k.tape.trans h.tape, k.output.trans h.output, Nat.le_trans h.size k.size, fun b hb hg => (k.far b (Nat.lt_of_lt_of_le hb h.size) hg).trans (h.far b hb hg), by
    rcases k.alt with e | e
    · rcases h.alt with e2 | e2
      · exact .inl (e.trans e2)
      · exact .inr (e.trans e2)
    · exact .inr e⟩
theorem RowR.refl (x : World) : RowR g o x x := ⟨rfl, rfl, rfl, Nat.le_refl _, fun _ _ _ => rfl, .inl rfl⟩
theorem RowR.drew (x : World) : RowR g o x x.drew := ⟨rfl, rfl, rfl, Nat.le_refl _, fun _ _ _ => rfl, .inl rfl⟩
theorem RowR.keeps (h : RowR g o x y) (hx : x.heap[g]? = some o) : y.heap[g]? = some o := h.alt.elim (fun e => e.trans hx) id
theorem RowR.get {k : Nat} {p : Nat × Obj} (OW : Own B base L w) (hk : L[k]? = some p) (hne : p.1 ≠ g) (h : RowR g o w w') : w'.heap[p.1]? = some p.2 :=
  (h.far _ (OW.lt (List.mem_of_getElem? hk)) hne).trans (OW.get hk)
/-- Behind the region: g holds o. -/
theorem Own.rowed {k : Nat} {o0 : Obj} (OW : Own B base L w) (hk : L[k]? = some (g, o0)) (h : RowR g o w w') (hg : w'.heap[g]? = some o) : Own B base (L.set k (g, o)) w' :=
  OW.putG hk h.os h.tape h.output h.size hg h.far
end
section
variable {F : Fence} {n : Nat} {P : Program} {L : List Oper} {N : Nat} {Q : Exit → Act → World → Prop} {V : Nat → Value → World → Prop} {D : Nat → List Nat} {a : Act} {w : World} {k : Nat} {o : Oper}
/-- A whole block is stored. -/
theorem held_storeR (hF : Fence.free F) (hg : o.guard = none) (T : TypeId) (x y : Operand) (ho : o.op = .store T x y) (g : Nat) (t : TypeId) (cs cs' : Array Value) (hw : w.heap[g]? = some (.cells cs t (0, 0))) (hs : cs'.size = cs.size) (h1 : cs'.all (·.oneCell') = true) (hsz : (P.info? T).map (·.size) = some cs'.size)
    (hV : ∀ w' : World, w'.heap[g]? = some (.cells cs' t (0, 0)) → V k undef w')
    (h : ∀ (xs : Nat → Value) (w' : World), (∀ j ∈ D k, V j (xs j) w') → RowR g (.cells cs' t (0, 0)) w w' → (putsH xs (L.take N) 0 a).eval x = .pointer (some ⟨g, 0, none⟩) ∧ (putsH xs (L.take N) 0 a).eval y = .agg cs') : HeldOp F n P L N Q V (RowR g (.cells cs' t (0, 0))) D a w k o := by
  refine ⟨?_⟩
  intro xs w' hk hR K hK
  rw [if_pos (by simp [Region.wanted, hg])]
  obtain ⟨hx, hy⟩ := h xs w' hk hR
  have hb : ∃ c, w'.heap[g]? = some (.cells c t (0, 0)) ∧ c.size = cs'.size := by
    rcases hR.alt with e | e
    · exact ⟨cs, e.trans hw, hs.symm⟩
    · exact ⟨cs', e, rfl⟩
  obtain ⟨c, hb, hcs⟩ := hb
  have hr := run_storeVar_row (P := P) w' g t T c cs' hb hsz hcs h1
  unfold Oper.wpIn
  refine ⟨fun f _ => hF.2 f, ?_⟩
  have hr2 : (execOp (putsH xs (L.take N) 0 a).eval o).run P w' = .ok .skip (w'.setRow g cs') := by
    unfold execOp
    simp only [ho, hx, hy, Instr.storeAt, Instr.sureAddr, Sem.run_bind, Sem.run_pure, Result.andThen_ok, hr]
  rw [Oper.semAt_plain F _ o (fun c hc => by rw [ho] at hc; cases hc), hr2]
  have hg2 := setRow_heap w' g c cs' t (0, 0) hb
  exact ⟨undef, rfl, hK _ _ (hV _ hg2) ⟨rfl, rfl, rfl, by simp, fun b _ hbg => setRow_other w' g b cs' hbg, .inr hg2⟩⟩
end
theorem locF_fixed {s : Nat → UInt8} (h : (((locF s).kind : Int) == 1) = true) : ∃ i : Nat, i ≤ 35 ∧ (locF s).place = (i : Int) := by
  unfold locF at h ⊢
  by_cases hn : nul s
  · rw [if_pos hn] at h; cases h
  · rw [if_neg hn] at h ⊢
    cases hf : fnd s 39 with
    | none => rw [hf] at h; cases h
    | some i =>
      rw [hf] at h
      by_cases h35 : 35 < i
      · simp only [if_pos h35] at h; cases h
      · exact ⟨i, by omega, by simp only [if_neg h35]⟩
theorem fixed_lt {s : Nat → UInt8} (h : (((locF s).kind : Int) == 1) = true) : (locF s).place.toNat < 36 := by
  obtain ⟨i, h1, h2⟩ := locF_fixed h
  rw [h2, Int.toNat_natCast]; omega
theorem idx36 (g : Nat) {s : Nat → UInt8} (h : (((locF s).kind : Int) == 1) = true) (W : World) : (Instr.indexAt 23 (.pointer (some ⟨g, 0, none⟩)) (.int .i64 (locF s).place)).run Try.prog W = .ok (.pointer (some ⟨g, (locF s).place.toNat, none⟩)) W := by
  obtain ⟨i, h1, h2⟩ := locF_fixed h
  rw [h2, Int.toNat_natCast]
  exact arX36 g i (by omega) W
theorem slice36 (g : Nat) (W : World) : (Instr.sliceAt 23 (.pointer (some ⟨g, 0, none⟩)) (some (.int .i64 4)) none none).run Try.prog W = .ok (.slice (some ⟨g, 4, none⟩) 32 32) W := by
  rw [run_sliceAt_array_l (P := Try.prog) (w := W) (t := 23) (a := ⟨g, 0, none⟩) (by kernel_rfl) (kl := .i64) (l := 4) (by omega) (by rw [arL36]; omega), arZ36, Result.andThen_ok]
  unfold slicedAt
  rw [arL36, show (4 : Int).toNat = 4 from rfl, Nat.mul_one, addr_addZ, if_neg (by omega)]
theorem drop36 {X : List UInt8} (h : X.length = 36) : (X.drop 4).length = 32 := by rw [List.length_drop, h]
theorem load36 {V : World} {g : Nat} {X : List UInt8} (hk : V.heap[g]? = some (.cells (rawV X) 23 (0, 0))) (hX : X.length = 36) : (loadVar 32 ⟨g, 4, none⟩).run Try.prog V = .ok (.agg (rawV (X.drop 4))) V := by
  have h := run_loadVar_sub (P := Try.prog) V g 4 23 32 (rawV X) ((X.drop 4).map vU) hk (by
    unfold rawV
    rw [List.length_map, List.length_drop, hX]
    simp only [List.map_drop]
    rw [List.take_of_length_le (by rw [List.length_drop, List.length_map, hX]; exact Nat.le_refl _)]) Try.underlying32 rfl (by rw [List.length_map, List.length_drop, hX]; exact arI32)
  exact h
/-- The data of a word. -/
def decL (d v : List UInt8) : List UInt8 := bif ((locF (co (synL d v))).kind : Int) == 1 then (d.set (locF (co (synL d v))).place.toNat ((d.getD (locF (co (synL d v))).place.toNat 0) ^^^ (locF (co (synL d v))).val)).drop 4 else d.drop 4

set_option maxRecDepth 100000 in
set_option maxHeartbeats 1000000 in
theorem decode_any (cb fb : Nat) (d v : List UInt8) (hd : d.length = 36) (hv : v.length = 3) (w : World) (hC : CodeAt w cb fb) : Calls Try.prog 13 #[.pointer (some ⟨cb, 0, none⟩), .agg (rawV d), .agg (rawV v)] w fun e w' => e = .returned (.tuple #[.agg (rawV (decL d v)), .agg #[.int .i64 ((locF (co (synL d v))).kind : Int), .int .i64 (locF (co (synL d v))).place, .int .u8 ((locF (co (synL d v))).val.toNat : Int)]]) ∧ Below w.heap.size w w' := by
  obtain ⟨b0, hb0⟩ : ∃ b0, w.heap.size = b0 := ⟨_, rfl⟩
  have HB0 := Lib.hid hb0
  have OW := Lib.hid (Own.start b0 w)
  have OZ := Lib.hid (And.intro hb0 (Nat.le_refl b0))
  clear hb0
  have HCODE := Lib.hid (fun (L : Objs) (V : World) (h : Own b0 w L V) => (show CodeAt V cb fb from hC.below (by rw [HB0.out]; exact h.below (Nat.le_of_eq HB0.out.symm))))
  clear hC
  refine (callsIn_wide (n := 6)).1 ?_
  refine callsIn_of_wp_marks Try.func13 rfl trivial ?_ rfl
  simp only [Try.ntmps13, List.size_toArray, List.length_cons, List.length_nil, Nat.reduceAdd, Nat.reduceSub, Array.replicate_succ, Array.replicate_zero, List.push_toArray, List.append_toArray, List.nil_append, List.cons_append]
  gi_wp2_with (first | (refine own_boxV 4 23 (.tmp 1) rfl rfl rfl (.agg (rawV d)) rfl (rawV d) rfl OW OZ ?_; clear OW OZ; intro W g1 OW OZ) | (refine own_boxV 5 24 (.tmp 2) rfl rfl rfl (.agg (rawV v)) rfl (rawV v) rfl OW OZ ?_; clear OW OZ; intro W g2 OW OZ) | (refine own_allocV 6 32 rfl rfl rfl (rawV (List.replicate 32 0)) al32 OW OZ ?_; clear OW OZ; intro W g3 OW OZ) | (refine own_allocV 7 30 rfl rfl rfl #[.int .i64 0, .int .i64 0, .int .u8 0] (fun _ => by kernel_rfl) OW OZ ?_; clear OW OZ; intro W g4 OW OZ) | (refine own_loadRowV 11 0 23 (.tmp 4) rfl rfl rfl rfl rfl _ Try.underlying23 rfl (arJ36 (show (d).length = 36 from hd)) OW ?_) | (refine own_loadRowV 12 1 24 (.tmp 5) rfl rfl rfl rfl rfl _ Try.underlying24 rfl (arJ3 (show (v).length = 3 from hv)) OW ?_))
  refine ⟨trivial, ?_⟩
  refine (callsIn_wide.2 (synd_any cb fb d v (hd) (hv) _ (HCODE.out _ _ OW.out))).mono ?_
  rintro e Wg5 ⟨rfl, hbw⟩
  obtain ⟨g5, OW2, OZ2⟩ := own_call OW OZ hbw
  clear hbw OW OZ
  have OW := OW2
  have OZ := OZ2
  clear OW2 OZ2
  gi_wp2_with fail
  refine ⟨trivial, ?_⟩
  refine (callsIn_wide.2 (locate_any cb fb (synL d v) (by simp only [synL_len, List.length_set, List.length_drop, Nat.reduceSub, hd, hv]) _ (HCODE.out _ _ OW.out))).mono ?_
  rintro e Wg6 ⟨rfl, hbw⟩
  obtain ⟨g6, OW2, OZ2⟩ := own_call OW OZ hbw
  clear hbw OW OZ
  have OW := OW2
  have OZ := OZ2
  clear OW2 OZ2
  gi_upto_region 2 with (first | (refine own_allocV 8 30 rfl rfl rfl #[.int .i64 0, .int .i64 0, .int .u8 0] (fun _ => by kernel_rfl) OW OZ ?_; clear OW OZ; intro W g7 OW OZ) | (refine own_storeSub 4 0 30 (.tmp 8) (.tmp 14) rfl rfl rfl rfl [.int .i64 ((locF (co (synL d v))).kind : Int), .int .i64 (locF (co (synL d v))).place, .int .u8 ((locF (co (synL d v))).val.toNat : Int)] rfl (Nat.le_of_ble_eq_true rfl) rfl (by kernel_rfl) #[.int .i64 ((locF (co (synL d v))).kind : Int), .int .i64 (locF (co (synL d v))).place, .int .u8 ((locF (co (synL d v))).val.toNat : Int)] rfl _ rfl OW OZ ?_; clear OW OZ; intro W OW OZ))
  obtain ⟨eo82, qeo82⟩ : ∃ e, (((locF (co (synL d v))).kind : Int) == 1) = e := ⟨_, rfl⟩
  refine wpIn_region_heldL 3 (atD [[], [0], [1]]) (atV [fun vH _ => vH = .pointer (some ⟨g6, 0, none⟩), fun vH _ => vH = .int .i64 ((locF (co (synL d v))).kind : Int), fun vH _ => vH = .bool eo82]) BelowR (by kernel_rfl) BelowR.trans (BelowR.refl _)
    (StV.atV (.const _ (.const _ (.const _ .nil))))
    ⟨?o8x0, ?o8x1, ?o8x2, trivial⟩ ?_
  case o8x0 =>
    exact held_run free_wide rfl (by rfl) BelowR.refl fun xH w' kH hR => ⟨_, run_fldO rfl (pO (by kernel_rfl) rfl) (by kernel_rfl), rfl⟩
  case o8x1 =>
    exact held_load free_wide rfl BelowR.refl 3 (.tmp 15) rfl fun xH w' kH hR => ⟨_, _, (pT 0 (by kernel_rfl) (by kernel_rfl) (kH 0 (by decide))), ldC OW hR 4 rfl rfl naInt, rfl⟩
  case o8x2 =>
    exact held_run free_wide rfl (by rfl) BelowR.refl fun xH w' kH hR => ⟨_, run_binO rfl (pT 1 (by kernel_rfl) (by kernel_rfl) (kH 1 (by decide))) rfl bin_eql, (congrArg Value.bool qeo82)⟩
  intro xH w' hv hR
  subst qeo82
  have h0 : xH 0 = _ := hv 0 (by omega)
  have h1 : xH 1 = _ := hv 1 (by omega)
  have h2 : xH 2 = _ := hv 2 (by omega)
  simp only [List.take_succ_cons, List.take_zero, List.drop_succ_cons, List.drop_zero, putsH, Act.put, List.setIfInBounds_toArray, List.set_cons_succ, List.set_cons_zero, h0, h1, h2]
  have OW2 := Lib.hid (OW.out.step hR)
  clear hv hR OW OZ h0 h1 h2
  have OW := OW2
  clear OW2
  obtain ⟨g9, OZ⟩ := own_size OW HB0
  cases hB10 : (((locF (co (synL d v))).kind : Int) == 1)
  case true =>
    gi_upto_region 3 with fail
    refine wpIn_region_held 8 (atD [[], [0], [1], [2], [], [4], [3, 5], [1]]) (atV [fun vH _ => vH = .pointer (some ⟨g6, 1, none⟩), fun vH _ => vH = .int .i64 (locF (co (synL d v))).place, fun vH _ => vH = .pointer (some ⟨b0, ((locF (co (synL d v))).place.toNat), none⟩), fun vH _ => vH = .int .u8 ((d.getD ((locF (co (synL d v))).place.toNat) 0).toNat : Int), fun vH _ => vH = .pointer (some ⟨g6, 2, none⟩), fun vH _ => vH = .int .u8 ((locF (co (synL d v))).val.toNat : Int), fun vH _ => vH = .int .u8 (((d.getD ((locF (co (synL d v))).place.toNat) 0) ^^^ (locF (co (synL d v))).val).toNat : Int), fun vH _ => vH = .pointer (some ⟨b0, ((locF (co (synL d v))).place.toNat), none⟩)]) BelowR (by kernel_rfl) (by kernel_rfl) BelowR.trans (BelowR.drew _)
      (StV.atV (.const _ (.const _ (.const _ (.const _ (.const _ (.const _ (.const _ (.const _ .nil)))))))))
      ⟨?o11x0, ?o11x1, ?o11x2, ?o11x3, ?o11x4, ?o11x5, ?o11x6, ?o11x7, trivial⟩ ?_
    case o11x0 =>
      exact held_run free_wide rfl (by rfl) BelowR.refl fun xH w' kH hR => ⟨_, run_fldO rfl (pO (by kernel_rfl) rfl) (by kernel_rfl), rfl⟩
    case o11x1 =>
      exact held_load free_wide rfl BelowR.refl 3 (.tmp 18) rfl fun xH w' kH hR => ⟨_, _, (pT 0 (by kernel_rfl) (by kernel_rfl) (kH 0 (by decide))), ldC OW hR 4 rfl rfl naInt, rfl⟩
    case o11x2 =>
      exact held_run free_wide rfl (by rfl) BelowR.refl fun xH w' kH hR => ⟨_, run_idxO (vx := .pointer (some ⟨b0, 0, none⟩)) (vi := .int .i64 (locF (co (synL d v))).place) rfl (pO (by kernel_rfl) rfl) (pT 1 (by kernel_rfl) (by kernel_rfl) (kH 1 (by decide))) (idx36 _ (by assumption) _), rfl⟩
    case o11x3 =>
      exact held_load free_wide rfl BelowR.refl 5 (.tmp 20) rfl fun xH w' kH hR => ⟨_, _, (pT 2 (by kernel_rfl) (by kernel_rfl) (kH 2 (by decide))), ldC OW hR 0 rfl (rawV_get _ (by rw [(show (d).length = 36 from hd)]; exact fixed_lt (by assumption))) naU8, rfl⟩
    case o11x4 =>
      exact held_run free_wide rfl (by rfl) BelowR.refl fun xH w' kH hR => ⟨_, run_fldO rfl (pO (by kernel_rfl) rfl) (by kernel_rfl), rfl⟩
    case o11x5 =>
      exact held_load free_wide rfl BelowR.refl 5 (.tmp 22) rfl fun xH w' kH hR => ⟨_, _, (pT 4 (by kernel_rfl) (by kernel_rfl) (kH 4 (by decide))), ldC OW hR 4 rfl rfl naU8, rfl⟩
    case o11x6 =>
      exact held_run free_wide rfl (by rfl) BelowR.refl fun xH w' kH hR => ⟨_, run_binO rfl (pT 3 (by kernel_rfl) (by kernel_rfl) (kH 3 (by decide))) (pT 5 (by kernel_rfl) (by kernel_rfl) (kH 5 (by decide))) (bin_xor8), rfl⟩
    case o11x7 =>
      exact held_run free_wide rfl (by rfl) BelowR.refl fun xH w' kH hR => ⟨_, run_idxO (vx := .pointer (some ⟨b0, 0, none⟩)) (vi := .int .i64 (locF (co (synL d v))).place) rfl (pO (by kernel_rfl) rfl) (pT 1 (by kernel_rfl) (by kernel_rfl) (kH 1 (by decide))) (idx36 _ (by assumption) _), rfl⟩
    intro xH w' hv hR
    have h0 : xH 0 = _ := hv 0 (by omega)
    have h1 : xH 1 = _ := hv 1 (by omega)
    have h2 : xH 2 = _ := hv 2 (by omega)
    have h3 : xH 3 = _ := hv 3 (by omega)
    have h4 : xH 4 = _ := hv 4 (by omega)
    have h5 : xH 5 = _ := hv 5 (by omega)
    have h6 : xH 6 = _ := hv 6 (by omega)
    have h7 : xH 7 = _ := hv 7 (by omega)
    simp only [List.take_succ_cons, List.take_zero, List.drop_succ_cons, List.drop_zero, putsH, Act.put, List.setIfInBounds_toArray, List.set_cons_succ, List.set_cons_zero, h0, h1, h2, h3, h4, h5, h6, h7]
    have OW2 := Lib.hid (OW.out.step hR)
    clear hv hR OW OZ h0 h1 h2 h3 h4 h5 h6 h7
    have OW := OW2
    clear OW2
    obtain ⟨g12, OZ⟩ := own_size OW HB0
    gi_upto_region 4 with (first | (refine own_store 0 5 (.tmp 25) (.tmp 24) rfl rfl rfl rfl (.int .u8 (((d.getD ((locF (co (synL d v))).place.toNat) 0) ^^^ (locF (co (synL d v))).val).toNat : Int)) rfl (rawV (d.set ((locF (co (synL d v))).place.toNat) ((d.getD ((locF (co (synL d v))).place.toNat) 0) ^^^ (locF (co (synL d v))).val))) (rawV_set _ _ ((d.getD ((locF (co (synL d v))).place.toNat) 0) ^^^ (locF (co (synL d v))).val)) (by rw [rawV_size, (show (d).length = 36 from hd)]; exact fixed_lt (by assumption)) rfl szU8 _ rfl OW OZ ?_; clear OW OZ; intro W OW OZ))
    have hXL : ((d.set ((locF (co (synL d v))).place.toNat) ((d.getD ((locF (co (synL d v))).place.toNat) 0) ^^^ (locF (co (synL d v))).val))).length = 36 := by simp only [List.length_set, hd]
    refine wpIn_region_held 5 (atD [[], [0], [1], [], [2]]) (atV [fun v _ => v = .slice (some ⟨b0, 4, none⟩) 32 32, fun v _ => v = .pointer (some ⟨b0, 4, none⟩), fun u _ => u = .agg (rawV (((d.set ((locF (co (synL d v))).place.toNat) ((d.getD ((locF (co (synL d v))).place.toNat) 0) ^^^ (locF (co (synL d v))).val))).drop 4)), fun u _ => u = .agg #[.int .i64 ((locF (co (synL d v))).kind : Int), .int .i64 (locF (co (synL d v))).place, .int .u8 ((locF (co (synL d v))).val.toNat : Int)], fun _ W => W.heap[g2]? = some (.cells (rawV (((d.set ((locF (co (synL d v))).place.toNat) ((d.getD ((locF (co (synL d v))).place.toNat) 0) ^^^ (locF (co (synL d v))).val))).drop 4)) 32 (0, 0))])
      (RowR g2 (.cells (rawV (((d.set ((locF (co (synL d v))).place.toNat) ((d.getD ((locF (co (synL d v))).place.toNat) 0) ^^^ (locF (co (synL d v))).val))).drop 4)) 32 (0, 0))) (by kernel_rfl) (by kernel_rfl) RowR.trans (RowR.drew _)
      (StV.atV (.const _ (.const _ (.const _ (.const _ (.cons (fun v x y h k => k.keeps h) .nil))))))
      ⟨?rg130, ?rg131, ?rg132, ?rg133, ?rg134, trivial⟩ ?rg13end
    case rg130 => exact held_run free_wide rfl (by rfl) RowR.refl fun xH w' kH hR => ⟨_, run_sliceO rfl (by rw [show (putsH xH _ 0 _).eval (.tmp 4) = .pointer (some ⟨b0, 0, none⟩) from (putsH_old (by kernel_rfl)).trans rfl]; exact slice36 b0 w'), rfl⟩
    case rg131 => exact held_run free_wide rfl (by rfl) RowR.refl fun xH w' kH hR => ⟨.pointer (some ⟨b0, 4, none⟩), run_s2aO (vx := .slice (some ⟨b0, 4, none⟩) 32 32) rfl (by rw [putsH_tmp (i := 0) (by kernel_rfl) (by kernel_rfl)]; exact kH 0 (by decide)) (run_arrayAt w' 32 5 32 _ 32 32 Try.underlying32 (by omega)), rfl⟩
    case rg132 => exact held_load free_wide rfl RowR.refl 32 (.tmp 27) rfl fun xH w' kH hR => ⟨⟨b0, 4, none⟩, _, (by rw [putsH_tmp (i := 1) (by kernel_rfl) (by kernel_rfl)]; exact kH 1 (by decide)), load36 (RowR.get OW.out (k := 0) rfl (Own.apart OW.out (j := 0) (k := 2) rfl rfl (by decide)) hR) hXL, rfl⟩
    case rg133 => exact held_load free_wide rfl RowR.refl 30 (.tmp 8) rfl fun xH w' kH hR => ⟨⟨g6, 0, none⟩, _, (putsH_old (by kernel_rfl)).trans rfl, run_loadVar_row w' g6 _ _ _ (0, 0) _ (RowR.get OW.out (k := 4) rfl (Own.apart OW.out (j := 4) (k := 2) rfl rfl (by decide)) hR) Try.underlying30 rfl (by kernel_rfl), rfl⟩
    case rg134 => exact held_storeR free_wide rfl 32 (.tmp 6) (.tmp 28) rfl g2 _ _ _ (OW.out.get (k := 2) rfl) (by rw [rawV_size, rawV_size, drop36 hXL, List.length_replicate]) (rawV_one _) (arJ32 (drop36 hXL)) (fun w' h => h) fun xH w' kH hR => ⟨(putsH_old (by kernel_rfl)).trans rfl, by rw [putsH_tmp (i := 2) (by kernel_rfl) (by kernel_rfl)]; exact kH 2 (by decide)⟩
    intro xH w' hv hR
    have h0 : xH 0 = .slice (some ⟨b0, 4, none⟩) 32 32 := hv 0 (by omega)
    have h1 : xH 1 = .pointer (some ⟨b0, 4, none⟩) := hv 1 (by omega)
    have h2 : xH 2 = .agg (rawV (((d.set ((locF (co (synL d v))).place.toNat) ((d.getD ((locF (co (synL d v))).place.toNat) 0) ^^^ (locF (co (synL d v))).val))).drop 4)) := hv 2 (by omega)
    have h3 : xH 3 = .agg #[.int .i64 ((locF (co (synL d v))).kind : Int), .int .i64 (locF (co (synL d v))).place, .int .u8 ((locF (co (synL d v))).val.toNat : Int)] := hv 3 (by omega)
    have h4 : w'.heap[g2]? = some (.cells (rawV (((d.set ((locF (co (synL d v))).place.toNat) ((d.getD ((locF (co (synL d v))).place.toNat) 0) ^^^ (locF (co (synL d v))).val))).drop 4)) 32 (0, 0)) := hv 4 (by omega)
    simp only [List.take_succ_cons, List.take_zero, List.drop_succ_cons, List.drop_zero, putsH, Act.put, List.setIfInBounds_toArray, List.set_cons_succ, List.set_cons_zero, h0, h1, h2, h3]
    have OW2 := Lib.hid (OW.out.rowed (k := 2) rfl hR h4)
    clear hv hR OW OZ h0 h1 h2 h3 h4
    have OW := OW2
    clear OW2
    obtain ⟨gR, OZ⟩ := own_size OW HB0
    gi_wp2_with (refine own_storeSub 3 0 30 (.tmp 7) (.tmp 29) rfl rfl rfl rfl [.int .i64 ((locF (co (synL d v))).kind : Int), .int .i64 (locF (co (synL d v))).place, .int .u8 ((locF (co (synL d v))).val.toNat : Int)] rfl (Nat.le_of_ble_eq_true rfl) rfl (by kernel_rfl) #[.int .i64 ((locF (co (synL d v))).kind : Int), .int .i64 (locF (co (synL d v))).place, .int .u8 ((locF (co (synL d v))).val.toNat : Int)] rfl _ rfl OW OZ ?_; clear OW OZ; intro W OW OZ)
    gi_wp2
    refine leaves_own [] _ (Nat.le_of_eq HB0.out) (by simpa using OW.out) ?_
    intro W' hO
    exact ⟨.tuple #[.agg (rawV (((d.set ((locF (co (synL d v))).place.toNat) ((d.getD ((locF (co (synL d v))).place.toNat) 0) ^^^ (locF (co (synL d v))).val))).drop 4)), .agg #[.int .i64 ((locF (co (synL d v))).kind : Int), .int .i64 (locF (co (synL d v))).place, .int .u8 ((locF (co (synL d v))).val.toNat : Int)]], results_two rfl rfl rfl (run_loadVar_row _ _ _ _ _ (0, 0) _ (hO.get (k := 2) rfl) Try.underlying32 rfl (arJ32 (show ((((d.set ((locF (co (synL d v))).place.toNat) ((d.getD ((locF (co (synL d v))).place.toNat) 0) ^^^ (locF (co (synL d v))).val))).drop 4)).length = 32 by simp only [synL_len, List.length_set, List.length_drop, Nat.reduceSub, hd, hv]))) (run_loadVar_row _ _ _ _ _ (0, 0) _ (hO.get (k := 3) rfl) Try.underlying30 rfl (by kernel_rfl)), (by unfold decL; simp only [*, cond_true, cond_false]), hO.done HB0⟩
  gi_upto_region 4 with fail
  have hXL : (d).length = 36 := by simp only [List.length_set, hd]
  refine wpIn_region_held 5 (atD [[], [0], [1], [], [2]]) (atV [fun v _ => v = .slice (some ⟨b0, 4, none⟩) 32 32, fun v _ => v = .pointer (some ⟨b0, 4, none⟩), fun u _ => u = .agg (rawV ((d).drop 4)), fun u _ => u = .agg #[.int .i64 ((locF (co (synL d v))).kind : Int), .int .i64 (locF (co (synL d v))).place, .int .u8 ((locF (co (synL d v))).val.toNat : Int)], fun _ W => W.heap[g2]? = some (.cells (rawV ((d).drop 4)) 32 (0, 0))])
    (RowR g2 (.cells (rawV ((d).drop 4)) 32 (0, 0))) (by kernel_rfl) (by kernel_rfl) RowR.trans (RowR.drew _)
    (StV.atV (.const _ (.const _ (.const _ (.const _ (.cons (fun v x y h k => k.keeps h) .nil))))))
    ⟨?rg140, ?rg141, ?rg142, ?rg143, ?rg144, trivial⟩ ?rg14end
  case rg140 => exact held_run free_wide rfl (by rfl) RowR.refl fun xH w' kH hR => ⟨_, run_sliceO rfl (by rw [show (putsH xH _ 0 _).eval (.tmp 4) = .pointer (some ⟨b0, 0, none⟩) from (putsH_old (by kernel_rfl)).trans rfl]; exact slice36 b0 w'), rfl⟩
  case rg141 => exact held_run free_wide rfl (by rfl) RowR.refl fun xH w' kH hR => ⟨.pointer (some ⟨b0, 4, none⟩), run_s2aO (vx := .slice (some ⟨b0, 4, none⟩) 32 32) rfl (by rw [putsH_tmp (i := 0) (by kernel_rfl) (by kernel_rfl)]; exact kH 0 (by decide)) (run_arrayAt w' 32 5 32 _ 32 32 Try.underlying32 (by omega)), rfl⟩
  case rg142 => exact held_load free_wide rfl RowR.refl 32 (.tmp 27) rfl fun xH w' kH hR => ⟨⟨b0, 4, none⟩, _, (by rw [putsH_tmp (i := 1) (by kernel_rfl) (by kernel_rfl)]; exact kH 1 (by decide)), load36 (RowR.get OW.out (k := 0) rfl (Own.apart OW.out (j := 0) (k := 2) rfl rfl (by decide)) hR) hXL, rfl⟩
  case rg143 => exact held_load free_wide rfl RowR.refl 30 (.tmp 8) rfl fun xH w' kH hR => ⟨⟨g6, 0, none⟩, _, (putsH_old (by kernel_rfl)).trans rfl, run_loadVar_row w' g6 _ _ _ (0, 0) _ (RowR.get OW.out (k := 4) rfl (Own.apart OW.out (j := 4) (k := 2) rfl rfl (by decide)) hR) Try.underlying30 rfl (by kernel_rfl), rfl⟩
  case rg144 => exact held_storeR free_wide rfl 32 (.tmp 6) (.tmp 28) rfl g2 _ _ _ (OW.out.get (k := 2) rfl) (by rw [rawV_size, rawV_size, drop36 hXL, List.length_replicate]) (rawV_one _) (arJ32 (drop36 hXL)) (fun w' h => h) fun xH w' kH hR => ⟨(putsH_old (by kernel_rfl)).trans rfl, by rw [putsH_tmp (i := 2) (by kernel_rfl) (by kernel_rfl)]; exact kH 2 (by decide)⟩
  intro xH w' hv hR
  have h0 : xH 0 = .slice (some ⟨b0, 4, none⟩) 32 32 := hv 0 (by omega)
  have h1 : xH 1 = .pointer (some ⟨b0, 4, none⟩) := hv 1 (by omega)
  have h2 : xH 2 = .agg (rawV ((d).drop 4)) := hv 2 (by omega)
  have h3 : xH 3 = .agg #[.int .i64 ((locF (co (synL d v))).kind : Int), .int .i64 (locF (co (synL d v))).place, .int .u8 ((locF (co (synL d v))).val.toNat : Int)] := hv 3 (by omega)
  have h4 : w'.heap[g2]? = some (.cells (rawV ((d).drop 4)) 32 (0, 0)) := hv 4 (by omega)
  simp only [List.take_succ_cons, List.take_zero, List.drop_succ_cons, List.drop_zero, putsH, Act.put, List.setIfInBounds_toArray, List.set_cons_succ, List.set_cons_zero, h0, h1, h2, h3]
  have OW2 := Lib.hid (OW.out.rowed (k := 2) rfl hR h4)
  clear hv hR OW OZ h0 h1 h2 h3 h4
  have OW := OW2
  clear OW2
  obtain ⟨gR, OZ⟩ := own_size OW HB0
  gi_wp2_with (refine own_storeSub 3 0 30 (.tmp 7) (.tmp 29) rfl rfl rfl rfl [.int .i64 ((locF (co (synL d v))).kind : Int), .int .i64 (locF (co (synL d v))).place, .int .u8 ((locF (co (synL d v))).val.toNat : Int)] rfl (Nat.le_of_ble_eq_true rfl) rfl (by kernel_rfl) #[.int .i64 ((locF (co (synL d v))).kind : Int), .int .i64 (locF (co (synL d v))).place, .int .u8 ((locF (co (synL d v))).val.toNat : Int)] rfl _ rfl OW OZ ?_; clear OW OZ; intro W OW OZ)
  gi_wp2
  refine leaves_own [] _ (Nat.le_of_eq HB0.out) (by simpa using OW.out) ?_
  intro W' hO
  exact ⟨.tuple #[.agg (rawV ((d).drop 4)), .agg #[.int .i64 ((locF (co (synL d v))).kind : Int), .int .i64 (locF (co (synL d v))).place, .int .u8 ((locF (co (synL d v))).val.toNat : Int)]], results_two rfl rfl rfl (run_loadVar_row _ _ _ _ _ (0, 0) _ (hO.get (k := 2) rfl) Try.underlying32 rfl (arJ32 (show (((d).drop 4)).length = 32 by simp only [synL_len, List.length_set, List.length_drop, Nat.reduceSub, hd, hv]))) (run_loadVar_row _ _ _ _ _ (0, 0) _ (hO.get (k := 3) rfl) Try.underlying30 rfl (by kernel_rfl)), (by unfold decL; simp only [*, cond_true, cond_false]), hO.done HB0⟩
end Go.Proofs.Ytdgflbbffimpkaa
