/- rs.Code's syndromes, generator and 'lost': walks. -/
import Derived.Test.YtdgflbbffimpkaaRsC
namespace Go.Proofs.Ytdgflbbffimpkaa
open Go.RowKit Go.Shelf
set_option linter.unusedVariables false
attribute [local go_sem] Oper.semAt_some

section
variable {P : Program} {w w2 : World} {o : Oper} {ρ : Operand → Value}
theorem run_bslO {T : TypeId} {len : Nat} (ho : o.op = .buildSlice T len #[]) {v' : Value} (hr : (Instr.buildSlice T len #[]).run P w = .ok v' w2) : (execOp ρ o).run P w = .ok (.value v') w2 := by
  unfold execOp
  simp only [ho, Array.map_empty, Sem.run_bind, hr, Result.andThen_ok, Sem.run_pure]
end
theorem build0 (w : World) : (Instr.buildSlice 52 0 #[]).run Try.prog w = .ok (.slice (some ⟨w.heap.size, 0, none⟩) 0 0) (w.alloc (.cells (rowV [] []) 5)) := by kernel_rfl
/-- The value of all symbols at the root number j. -/
def synF (w v : List UInt8) (j : Nat) : UInt8 := evalL (w ++ v) (pw 2 j)
def synL (w v : List UInt8) : List UInt8 := ofF 4 (synF w v)
theorem synL_len (w v : List UInt8) : (synL w v).length = 4 := ofF_len _ _
def syTo (w v : List UInt8) (k : Nat) : List UInt8 := ofF 4 fun j => if j < k then synF w v j else 0
theorem syTo_len (w v : List UInt8) (k : Nat) : (syTo w v k).length = 4 := ofF_len _ _
theorem syTo_zero (w v : List UInt8) : syTo w v 0 = List.replicate 4 0 := ofF_zero _ _ fun i _ => if_neg (by omega)
theorem syTo_all (w v : List UInt8) : syTo w v 4 = synL w v := ofF_congr fun i hi => if_pos hi
theorem syTo_set (w v : List UInt8) (k : Nat) : (syTo w v k).set k (synF w v k) = syTo w v (k + 1) :=
  ofF_succ_set _ _ _ _ _ fun i _ => by
    by_cases e : i = k
    · subst e; rw [if_pos (by omega), if_pos rfl]
    · rw [if_neg e]
      by_cases h : i < k
      · rw [if_pos (by omega), if_pos h]
      · rw [if_neg (by omega), if_neg h]
theorem fexp_any (b k : Nat) (hk : k < 255) (w : World) (hF : FieldAt w b) :
    Calls Try.prog 31 #[.pointer (some ⟨b, 0, none⟩), .int .i64 (k : Int)] w fun e w' => e = .returned (.int .u8 ((pw 2 k).toNat : Int)) ∧ ∃ q, w' = w.drewN q := by
  rw [pw2_gE, Nat.mod_eq_of_lt hk]
  exact exp_any b _ k (by omega) w hF

set_option maxRecDepth 100000 in
set_option maxHeartbeats 1000000 in
theorem synd_any (cb fb : Nat) (d v : List UInt8) (hd : d.length = 36) (hv : v.length = 3) (w : World) (hC : CodeAt w cb fb) :
    Calls Try.prog 20 #[.pointer (some ⟨cb, 0, none⟩), .agg (rawV d), .agg (rawV v)] w fun e w' => e = .returned (.agg (rawV (synL d v))) ∧ Below w.heap.size w w' := by
  have HC := Lib.hid hC
  have HLA := Lib.hid hd
  have HLV := Lib.hid hv
  obtain ⟨b0, hb0⟩ : ∃ b0, w.heap.size = b0 := ⟨_, rfl⟩
  have HB0 := Lib.hid hb0
  have OW := Lib.hid (Own.start b0 w)
  have OZ := Lib.hid (And.intro hb0 (Nat.le_refl b0))
  clear hb0
  clear hC hd hv
  refine (callsIn_wide (n := 6)).1 ?_
  refine callsIn_of_wp_marks Try.func20 rfl trivial ?_ rfl
  simp only [Try.ntmps20, List.size_toArray, List.length_cons, List.length_nil, Nat.reduceAdd, Nat.reduceSub, Array.replicate_succ, Array.replicate_zero, List.push_toArray, List.append_toArray, List.nil_append, List.cons_append]
  gi_wp2_with (first
    | (refine own_box 23 (.tmp 1) rfl rfl (.agg (rawV d)) rfl (rawV d) rfl OW OZ ?_; clear OW OZ; intro W OW OZ)
    | (refine own_box 24 (.tmp 2) rfl rfl (.agg (rawV v)) rfl (rawV v) rfl OW OZ ?_; clear OW OZ; intro W OW OZ)
    | (refine own_alloc 22 rfl rfl _ al4 OW OZ ?_; clear OW OZ; intro W OW OZ))
  refine wpIn_region_held 4 (atD [[], [], [0, 1], []]) (atV [fun v W => ∃ g, v = .slice (some ⟨g, 0, none⟩) 0 0 ∧ b0 ≤ g ∧ Blk W g 5 (rowV ([] : List UInt8) []), fun v _ => v = .slice (some ⟨b0, 0, none⟩) 36 36,
    fun v W => ∃ g rest, v = .slice (some ⟨g, 0, none⟩) 36 (36 + rest.length) ∧ b0 + 1 + 1 + 1 + 1 ≤ g ∧ 36 + rest.length ≤ maxLen ∧ Blk W g 5 (rowV (([] : List UInt8) ++ d) rest), fun v _ => v = .slice (some ⟨(b0 + 1), 0, none⟩) 3 3]) BelowR (by kernel_rfl) (by kernel_rfl) BelowR.trans (BelowR.drew _)
    (StV.atV (.cons (fun v x y ⟨g, h1, h2, h3⟩ hb => ⟨g, h1, h2, h3.below hb h3.lt⟩) (.const _ (.cons (fun v x y ⟨g, r, h1, h2, h3, h4⟩ hb => ⟨g, r, h1, h2, h3, h4.below hb h4.lt⟩) (.const _ .nil)))))
    ⟨?o0, ?o1, ?o2, ?o3, trivial⟩ ?hend
  case o0 => exact held_valW free_wide rfl (by rfl) fun xH w' kH hR => ⟨_, _, run_bslO rfl (build0 w'), ⟨_, rfl, Nat.le_trans OZ.out.2 (by rw [← OZ.out.1]; exact hR.size), Blk.new w' _ _⟩, (Below.refl _ w').alloc (Nat.le_refl _) _⟩
  case o1 => exact held_run free_wide rfl (by rfl) BelowR.refl fun xH w' kH hR => ⟨_, run_sliceO rfl (by rw [show (putsH xH _ 0 _).eval (.tmp 4) = .pointer (some ⟨b0, 0, none⟩) from (putsH_old (by kernel_rfl)).trans rfl]; exact arS36 b0 w'), rfl⟩
  case o3 => exact held_run free_wide rfl (by rfl) BelowR.refl fun xH w' kH hR => ⟨_, run_sliceO rfl (by rw [show (putsH xH _ 0 _).eval (.tmp 5) = .pointer (some ⟨(b0 + 1), 0, none⟩) from (putsH_old (by kernel_rfl)).trans rfl]; exact arS3 (b0 + 1) w'), rfl⟩
  case o2 =>
    refine held_valW free_wide rfl (by rfl) fun xH w' kH hR => ?_
    obtain ⟨g, hg1, hg2, hg3⟩ : ∃ g, xH 0 = .slice (some ⟨g, 0, none⟩) 0 0 ∧ b0 ≤ g ∧ Blk w' g 5 (rowV ([] : List UInt8) []) := kH 0 (by decide)
    have h1 : xH 1 = .slice (some ⟨b0, 0, none⟩) 36 36 := kH 1 (by decide)
    have hr : RdB w' (some ⟨b0, 0, none⟩) d := RdB.raw ((OW.out.step hR).blk (k := 0) rfl)
    obtain ⟨rest', hm, hrun⟩ := run_app_grow (xs := ([] : List UInt8)) (rest := []) (c := 36) hg3 hr (by rw [HLA.out]; decide) (by rw [HLA.out]; decide)
    rw [HLA.out] at hrun hm
    refine ⟨_, _, run_appO rfl (by rw [putsH_tmp (i := 0) (by kernel_rfl) (by kernel_rfl)]; exact hg1) (by rw [putsH_tmp (i := 1) (by kernel_rfl) (by kernel_rfl)]; exact h1) hrun, ⟨_, rest', rfl, (by rw [← OZ.out.1]; exact hR.size), hm, Blk.new w'.drew _ _⟩, ?_⟩
    exact Below.alloc (⟨rfl, rfl, rfl, Nat.le_refl _, fun _ _ => rfl⟩ : Below w'.heap.size w' w'.drew) (Nat.le_refl _) _
  intro xH w' hv hR
  obtain ⟨g0, h0, _, _⟩ : ∃ g, xH 0 = .slice (some ⟨g, 0, none⟩) 0 0 ∧ b0 ≤ g ∧ Blk w' g 5 (rowV ([] : List UInt8) []) := hv 0 (by omega)
  have h1 : xH 1 = .slice (some ⟨b0, 0, none⟩) 36 36 := hv 1 (by omega)
  obtain ⟨g, rest, h2, hg, hm, hblk⟩ : ∃ (g : Nat) (rest : List Value), xH 2 = .slice (some ⟨g, 0, none⟩) 36 (36 + rest.length) ∧ b0 + 1 + 1 + 1 + 1 ≤ g ∧ 36 + rest.length ≤ maxLen ∧ Blk w' g 5 (rowV (([] : List UInt8) ++ d) rest) := hv 2 (by omega)
  have h3 : xH 3 = .slice (some ⟨(b0 + 1), 0, none⟩) 3 3 := hv 3 (by omega)
  simp only [List.take_succ_cons, List.take_zero, List.drop_succ_cons, List.drop_zero, putsH, Act.put, List.setIfInBounds_toArray, List.set_cons_succ, List.set_cons_zero, h0, h1, h2, h3]
  have hl36 : (([] : List UInt8) ++ d : List UInt8).length = 36 := by rw [List.length_append, HLA.out]; rfl
  have hfr := Fr.ofBlk (B := b0 + 1 + 1 + 1 + 1) hblk hg (by rw [hl36]; exact hm)
  have hrv : RdB w' (some ⟨(b0 + 1), 0, none⟩) v := RdB.raw ((OW.out.step hR).blk (k := 1) rfl)
  obtain ⟨v', w2, hrun, hfr2, hb2⟩ := run_app (ys := v) (c := 3) hfr hrv (fun h => by cases h) (by rw [← OZ.out.1]; exact hR.size) (by rw [hl36, HLV.out]; decide)
  rw [hl36, HLV.out] at hrun
  have hl39 : (([] : List UInt8) ++ d ++ v : List UInt8).length = 39 := by rw [List.length_append, hl36, HLV.out]
  obtain ⟨g9, rest9, rfl, hg9, hm9, hblk9⟩ := hfr2.row (by rw [hl39]; decide)
  rw [hl39] at hrun hm9
  have OW2 := Lib.hid (Own.add OW.out (Below.trans (show Below W.heap.size W w' from hR) (by rw [OZ.out.1]; exact hb2)) (by rw [OZ.out.1]; exact OZ.out.2) (by rw [OZ.out.1]; exact hg9) hblk9)
  obtain ⟨G2, OZ2⟩ := own_size OW2 HB0
  have HRUN := Lib.hid hrun
  have HL39 := Lib.hid hl39
  clear hv hR OW OZ hrun hfr2 hb2 hfr hrv hblk hl36 hblk9 hl39 hm9 hg9
  have OW := OW2
  have OZ := OZ2
  clear OW2 OZ2
  gi_wp2_with (refine op_append 52 (.tmp 12) (.tmp 13) rfl rfl (.slice (some ⟨g, 0, none⟩) 36 (36 + rest.length)) (.slice (some ⟨(b0 + 1), 0, none⟩) 3 3) (.slice (some ⟨g9, 0, none⟩) 39 (39 + rest9.length)) rfl rfl HRUN.out ?_)
  obtain ⟨A5, c5, hcb, hcf, hcg, hc5⟩ := HC.out
  have HCB := Lib.hid (show cb < b0 by rw [← HB0.out]; exact hcb.lt)
  have HCD := Lib.hid (And.intro hcb hcf)
  clear hcb hcf hcg HRUN
  gi_loopw [15] (fun i wr => ∃ k : Nat, k ≤ 4 ∧ i = .int .i64 k ∧ Own b0 w [cellsO b0 23 (rawV d), cellsO (b0 + 1) 24 (rawV v), cellsO (b0 + 1 + 1) 22 (rawV (List.replicate 4 0)), cellsO (b0 + 1 + 1 + 1) 22 (rawV (syTo d v k)), cellsO g9 5 (rowV (d ++ v) rest9)] wr) (fun i _ => 4 - (intOf i).toNat)
  case atStart => exact ⟨0, by omega, rfl, by rw [syTo_zero]; exact OW.out⟩
  case round =>
    obtain ⟨k, hk, rfl, hO⟩ := hrel
    clear OW OZ
    have OW := Lib.hid hO
    obtain ⟨G, OZ⟩ := own_size OW HB0
    clear hO
    by_cases h1 : k < 4
    · have i0 : (0 : Int) ≤ (k : Int) := by omega
      have i1 : (k : Int) < 4 := by omega
      have hmod : ∀ W, Below wr.heap.size wr W → FieldAt W fb := fun W hb => by
        have h1 := (OW.out.step hb).below (Nat.le_of_eq HB0.out.symm)
        exact (h1.block fb (by rw [← HB0.out]; exact (Array.getElem?_eq_some_iff.1 HCD.out.2).1)).trans HCD.out.2
      have hld : ∀ W, Below wr.heap.size wr W → W.cell? ⟨cb, 0, none⟩ = some (.pointer (some ⟨fb, 0, none⟩)) := fun W hb => by
        have h1 := (OW.out.step hb).below (Nat.le_of_eq HB0.out.symm)
        exact ((HCD.out.1.below h1 HCB.out).cell 0).trans rfl
      have HMOD := Lib.hid hmod
      have HLD := Lib.hid hld
      have HS := Lib.hid (show (rawV (syTo d v k)).setIfInBounds k (vU (synF d v k)) = rawV (syTo d v (k + 1)) by rw [rawV_set, syTo_set])
      have HL := Lib.hid (show k < (rawV (syTo d v k)).size by rw [rawV_size, syTo_len]; exact h1)
      have HIX := Lib.hid (fun (W : World) => (show (Instr.indexAt 22 (.pointer (some ⟨b0 + 1 + 1 + 1, 0, none⟩)) (.int .i64 (k : Int))).run Try.prog W = .ok (.pointer (some ⟨b0 + 1 + 1 + 1, k, none⟩)) W from arX4 _ k h1 W))
      clear hmod hld
      gi_upto_region 6 with fail
      refine wpIn_region_held 14 (atD [[], [], [1], [2], [3], [], [], [6], [7], [8], [], [9, 10], [4, 5, 11], [0]]) (atV [fun v _ => v = .int .i64 (k : Int), fun v _ => v = .pointer (some ⟨cb, 0, none⟩), fun v _ => v = .pointer (some ⟨cb, 0, none⟩), fun v _ => v = .pointer (some ⟨cb, 0, none⟩), fun v _ => v = .pointer (some ⟨fb, 0, none⟩), fun v _ => v = .slice (some ⟨g9, 0, none⟩) 39 (39 + rest9.length),
        fun v _ => v = .pointer (some ⟨cb, 0, none⟩), fun v _ => v = .pointer (some ⟨cb, 0, none⟩), fun v _ => v = .pointer (some ⟨cb, 0, none⟩), fun v _ => v = .pointer (some ⟨fb, 0, none⟩), fun v _ => v = .int .i64 (k : Int), fun v _ => v = vU (pw 2 k), fun u _ => u = vU (synF d v k), fun v _ => v = .pointer (some ⟨b0 + 1 + 1 + 1, k, none⟩)]) BelowR (by kernel_rfl) (by kernel_rfl) BelowR.trans (BelowR.drew _)
        (StV.atV (.const _ (.const _ (.const _ (.const _ (.const _ (.const _ (.const _ (.const _ (.const _ (.const _ (.const _ (.const _ (.const _ (.const _ .nil)))))))))))))))
        ⟨?p0, ?p1, ?p2, ?p3, ?p4, ?p5, ?p6, ?p7, ?p8, ?p9, ?p10, ?p11, ?p12, ?p13, trivial⟩ ?pend
      case p0 => exact held_move free_wide rfl BelowR.refl (.tmp 9) (.inl rfl) fun xH w' _ _ => (putsH_old (by kernel_rfl)).trans rfl
      case p1 => exact held_move free_wide rfl BelowR.refl (.tmp 0) (.inl rfl) fun xH w' _ _ => (putsH_old (by kernel_rfl)).trans rfl
      case p5 => exact held_move free_wide rfl BelowR.refl (.tmp 8) (.inl rfl) fun xH w' _ _ => (putsH_old (by kernel_rfl)).trans rfl
      case p6 => exact held_move free_wide rfl BelowR.refl (.tmp 0) (.inl rfl) fun xH w' _ _ => (putsH_old (by kernel_rfl)).trans rfl
      case p10 => exact held_move free_wide rfl BelowR.refl (.tmp 9) (.inl rfl) fun xH w' _ _ => (putsH_old (by kernel_rfl)).trans rfl
      case p2 => exact held_run free_wide rfl (by rfl) BelowR.refl fun xH w' kH hR => ⟨.pointer (some ⟨cb, 0, none⟩), run_nilO (p := ⟨cb, 0, none⟩) rfl (by rw [putsH_tmp (i := 1) (by kernel_rfl) (by kernel_rfl)]; exact kH 1 (by decide)), rfl⟩
      case p7 => exact held_run free_wide rfl (by rfl) BelowR.refl fun xH w' kH hR => ⟨.pointer (some ⟨cb, 0, none⟩), run_nilO (p := ⟨cb, 0, none⟩) rfl (by rw [putsH_tmp (i := 6) (by kernel_rfl) (by kernel_rfl)]; exact kH 6 (by decide)), rfl⟩
      case p3 => exact held_run free_wide rfl (by rfl) BelowR.refl fun xH w' kH hR => ⟨.pointer (some ⟨cb, 0, none⟩), run_fldO (vx := .pointer (some ⟨cb, 0, none⟩)) rfl (by rw [putsH_tmp (i := 2) (by kernel_rfl) (by kernel_rfl)]; exact kH 2 (by decide)) (by kernel_rfl), rfl⟩
      case p8 => exact held_run free_wide rfl (by rfl) BelowR.refl fun xH w' kH hR => ⟨.pointer (some ⟨cb, 0, none⟩), run_fldO (vx := .pointer (some ⟨cb, 0, none⟩)) rfl (by rw [putsH_tmp (i := 7) (by kernel_rfl) (by kernel_rfl)]; exact kH 7 (by decide)) (by kernel_rfl), rfl⟩
      case p4 => exact held_load free_wide rfl BelowR.refl 43 (.tmp 21) rfl fun xH w' kH hR => ⟨⟨cb, 0, none⟩, .pointer (some ⟨fb, 0, none⟩), (by rw [putsH_tmp (i := 3) (by kernel_rfl) (by kernel_rfl)]; exact kH 3 (by decide)), run_loadVar_cell (naF w') (HLD.out w' hR), rfl⟩
      case p9 => exact held_load free_wide rfl BelowR.refl 43 (.tmp 26) rfl fun xH w' kH hR => ⟨⟨cb, 0, none⟩, .pointer (some ⟨fb, 0, none⟩), (by rw [putsH_tmp (i := 8) (by kernel_rfl) (by kernel_rfl)]; exact kH 8 (by decide)), run_loadVar_cell (naF w') (HLD.out w' hR), rfl⟩
      case p11 =>
        refine held_call free_wide rfl 31 _ _ rfl (enters_of Try.func31 (by kernel_rfl) rfl) fun xH w' kH hR => ⟨#[.pointer (some ⟨fb, 0, none⟩), .int .i64 (k : Int)], mapE2 (by rw [putsH_tmp (i := 9) (by kernel_rfl) (by kernel_rfl)]; exact kH 9 (by decide)) (by rw [putsH_tmp (i := 10) (by kernel_rfl) (by kernel_rfl)]; exact kH 10 (by decide)), ?_⟩
        refine (callsIn_wide.2 (fexp_any fb k (by omega) w' (HMOD.out w' hR))).mono ?_
        rintro r w3 ⟨rfl, q, hq⟩
        exact ⟨_, rfl, rfl, by rw [hq]; exact below_self_drewN w' q⟩
      case p12 =>
        refine held_call free_wide rfl 32 _ _ rfl (enters_of Try.func32 (by kernel_rfl) rfl) fun xH w' kH hR => ⟨#[.pointer (some ⟨fb, 0, none⟩), .slice (some ⟨g9, 0, none⟩) 39 (39 + rest9.length), vU (pw 2 k)], mapE3 (by rw [putsH_tmp (i := 4) (by kernel_rfl) (by kernel_rfl)]; exact kH 4 (by decide)) (by rw [putsH_tmp (i := 5) (by kernel_rfl) (by kernel_rfl)]; exact kH 5 (by decide)) (by rw [putsH_tmp (i := 11) (by kernel_rfl) (by kernel_rfl)]; exact kH 11 (by decide)), ?_⟩
        refine (callsIn_wide.2 (peval_any fb (some ⟨g9, 0, none⟩) 39 (39 + rest9.length) (d ++ v) (pw 2 k) HL39.out (by omega) w' (HMOD.out w' hR) (RdB.row ((OW.out.step hR).blk (k := 4) rfl)))).mono ?_
        rintro r w3 ⟨rfl, hb⟩
        exact ⟨_, rfl, rfl, hb⟩
      case p13 => exact held_run free_wide rfl (by rfl) BelowR.refl fun xH w' kH hR => ⟨.pointer (some ⟨b0 + 1 + 1 + 1, k, none⟩), run_idxO (vx := .pointer (some ⟨b0 + 1 + 1 + 1, 0, none⟩)) (vi := .int .i64 (k : Int)) rfl ((putsH_old (by kernel_rfl)).trans rfl) (by rw [putsH_tmp (i := 0) (by kernel_rfl) (by kernel_rfl)]; exact kH 0 (by decide)) (HIX.out w'), rfl⟩
      case pend =>
        intro xH w' hv hR
        have e12 : xH 12 = vU (synF d v k) := hv 12 (by omega)
        have e13 : xH 13 = .pointer (some ⟨b0 + 1 + 1 + 1, k, none⟩) := hv 13 (by omega)
        simp only [List.take_succ_cons, List.take_zero, List.drop_succ_cons, List.drop_zero, putsH, Act.put, List.setIfInBounds_toArray, List.set_cons_succ, List.set_cons_zero, e12, e13]
        have OW2 := Lib.hid (OW.out.step hR)
        obtain ⟨G2, OZ2⟩ := own_size OW2 HB0
        clear hv hR OW OZ HMOD HLD
        gi_wp2_with (refine own_store 3 5 (.tmp 31) (.tmp 30) rfl rfl rfl rfl (vU (synF d v k)) rfl _ HS.out HL.out rfl szU8 _ rfl OW2 OZ2 ?_; clear OW2 OZ2; intro W OW2 OZ2)
        go_roundw
        case rel => exact ⟨k + 1, by omega, by go_num, OW2.out⟩
        case measure => simp [intOf]; omega
    · obtain rfl : k = 4 := by omega
      rw [syTo_all] at OW
      gi_wp2_with (first
        | (refine own_loadRow 3 22 (.tmp 7) rfl rfl rfl rfl _ Try.underlying22 rfl (arJ4 (synL_len d v)) OW ?_)
        | (refine own_storeRow 2 22 (.tmp 6) (.tmp 33) rfl rfl rfl rfl (rawV (synL d v)) rfl (by rw [rawV_size, rawV_size, synL_len]; rfl) (rawV_one _) (arJ4 (synL_len d v)) _ rfl OW OZ ?_; clear OW OZ; intro W3 OW OZ))
      refine leaves_own [] _ (Nat.le_of_eq HB0.out) (by simpa using OW.out) ?_
      intro W' hO
      exact ⟨_, results_ownRow hO 2 rfl rfl rfl Try.underlying22 rfl (arJ4 (synL_len d v)), rfl, hO.done HB0⟩
end Go.Proofs.Ytdgflbbffimpkaa
