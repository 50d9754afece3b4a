/- HsiaoColumns, walked: for every i, k the law returns true. -/
import Derived.Test.YtbhonojfglhbeaaHsI
import Derived.Test.YtbhonojfglhbeaaQTail
import Derived.Sort.BigQuietIn
import Derived.Sort.CutIn
import Derived.Lib.Agree
namespace Go.Proofs.Ytbhonojfglhbeaa
open Go.RowKit Go.Shelf
attribute [local go_sem] Oper.semAt_some

theorem colI_in {i : Nat} (h : i < 74) : colI (i : Int) = col i := by unfold colI; rw [if_pos (by omega)]; rfl
theorem colI_out {a : Int} (h : ¬ (0 ≤ a ∧ a < 74)) : colI a = 0 := if_neg h
theorem colI_eq {i : Nat} (h : i < 74) {a : Int} (he : colI a = col i) : a = i := by
  by_cases hin : 0 ≤ a ∧ a < 74
  · obtain ⟨j, rfl⟩ := Int.eq_ofNat_of_zero_le hin.1
    rw [colI_in (by omega)] at he
    have := col_inj (by omega) h he
    omega
  · rw [colI_out hin] at he
    have := col_pos h
    omega
theorem colI_lt (a : Int) : colI a < 256 := by
  unfold colI
  split
  · exact col_lt _
  · omega

set_option maxRecDepth 100000 in
set_option maxHeartbeats 4000000 in
theorem HsiaoColumns_walk (a0 a1 : Int) (w : World) (w0 : (Lit.int .i64 a0).wf = true) (w1 : (Lit.int .i64 a1).wf = true) :
    Calls Try.prog 4 #[.int .i64 a0, .int .i64 a1] w fun e w' => e = .returned (.bool true) ∧ Below w.heap.size w w' := by
  obtain ⟨u0, u1⟩ := lit_i64h w0
  obtain ⟨v0, v1⟩ := lit_i64h w1
  clear w0 w1
  refine (callsIn_wide (n := 6)).1 ?_
  refine callsIn_of_wp_marks Try.func4 rfl trivial ?_ rfl
  simp only [Try.ntmps4, List.size_toArray, List.length_cons, List.length_nil, Nat.reduceAdd, Nat.reduceSub, Array.replicate_succ, Array.replicate_zero, List.push_toArray, List.append_toArray, List.nil_append, List.cons_append]
  gi_wp2_with fail
  refine ⟨trivial, ?_⟩
  refine (callsIn_wide.2 (new_any _)).mono ?_
  rintro e W1 ⟨rfl, hc, hb⟩
  simp only [World.size_alloc] at hc hb ⊢
  obtain ⟨b0, hb0⟩ : ∃ b0, w.heap.size = b0 := ⟨_, rfl⟩
  rw [hb0] at hc hb ⊢
  have A0 : Blk W1 b0 3 #[.int .i64 a1] := (hb.block b0 (by omega)).trans (by rw [← hb0]; exact (Blk.new w _ _).alloc _)
  have A1 : Blk W1 (b0 + 1) 4 #[.bool false] := (hb.block (b0 + 1) (by omega)).trans (by
    rw [← hb0]; have h := (Blk.new (w.alloc (.cells #[.int .i64 a1] 3)) 4 #[.bool false]); rw [World.size_alloc] at h; exact h)
  have AB : Below b0 w W1 := by
    rw [← hb0]; exact (((Below.refl w.heap.size w).alloc (Nat.le_refl _) _).alloc (by simp) _).trans (hb.mono (by omega))
  have HB0 := Lib.hid hb0
  have HC := Lib.hid hc
  have HA0 := Lib.hid A0
  have HA1 := Lib.hid A1
  have HAB := Lib.hid AB
  clear hc hb hb0 A0 A1 AB
  gi_wp2_with fail
  refine ⟨trivial, ?_⟩
  refine (callsIn_wide.2 (anchor_any _ W1 HC.out)).mono ?_
  rintro e W2 ⟨rfl, hb⟩
  have lz : b0 + 2 < W1.heap.size := Blk.lt HC.out
  have B0 := HA0.out.below hb (by omega)
  have B1 := HA1.out.below hb (by omega)
  have BC : CodeAt W2 (b0 + 2) := Blk.below HC.out hb (by omega)
  have BB : Below b0 w W2 := HAB.out.trans (hb.mono (by omega))
  have e0 := B0.cell 0
  have e1 := B1.cell 0
  have f1 := B1.frozen 0
  simp only [List.getElem?_toArray, List.getElem?_cons_zero] at e0 e1
  have HB0' := Lib.hid B0
  have HB1 := Lib.hid B1
  have HBC := Lib.hid BC
  have HBB := Lib.hid BB
  have HLZ := Lib.hid lz
  clear hb lz B0 B1 BC BB HC HA0 HA1 HAB
  have CX := fun k => column_any (b0 + 2) a0 u0 u1 (W2.drewN k) HBC.out
  have CY := fun k => column_any (b0 + 2) a1 v0 v1 (W2.drewN k) HBC.out
  obtain ⟨X, hX⟩ : ∃ X, colI a0 = X := ⟨_, rfl⟩
  obtain ⟨Y, hY⟩ : ∃ Y, colI a1 = Y := ⟨_, rfl⟩
  rw [hX] at CX
  rw [hY] at CY
  have HCX := Lib.hid CX
  have HCY := Lib.hid CY
  have HX := Lib.hid hX
  have HY := Lib.hid hY
  clear CX CY hX hY
  gi_upto_region 4 with fail
  refine wpIn_wide.2 ?_
  go_quiet ((go_at_call 14; first | with_reducible exact Calls.quiet_of_same ((HCX.out _).mono fun _ _ h => ⟨h.1, h.2.symm⟩) | with_reducible exact Calls.quiet_of_same ((HCY.out _).mono fun _ _ h => ⟨h.1, h.2.symm⟩)))
  gi_upto_region 5 with fail
  obtain ⟨W3, hW3⟩ : ∃ W3, W2.drewN nq = W3 := ⟨_, rfl⟩
  rw [hW3]
  replace e0 : W3.cell? ⟨b0, 0, none⟩ = some (.int .i64 a1) := by rw [← hW3]; exact e0
  replace e1 : W3.cell? ⟨b0 + 1, 0, none⟩ = some (.bool false) := by rw [← hW3]; exact e1
  replace f1 : W3.frozen? ⟨b0 + 1, 0, none⟩ = false := by rw [← hW3]; exact f1
  have M0 := Lib.hid (show Blk W3 b0 3 #[.int .i64 a1] by rw [← hW3]; exact HB0'.out)
  have M1 := Lib.hid (show Blk W3 (b0 + 1) 4 #[.bool false] by rw [← hW3]; exact HB1.out)
  have MC := Lib.hid (show CodeAt W3 (b0 + 2) by rw [← hW3]; exact HBC.out)
  have MB := Lib.hid (show Below b0 w W3 by rw [← hW3]; exact below_drewN HBB.out nq)
  clear hW3 HB0' HB1 HBC HBB HLZ HCX HCY
  gi_cut [53] from 21 (fun s wx => s = .bool false ∧ W3 = wx)
  case first =>
    have RC := refColumn_any a0 u0 u1 W3
    rw [HX.out] at RC
    have HRC := Lib.hid RC
    have hXl := colI_lt a0
    rw [HX.out] at hXl
    have RW := refWeight (X : Int) X rfl (by omega) W3
    clear RC
    by_cases hin : 0 ≤ a0 ∧ a0 < 74
    · obtain ⟨i, rfl⟩ := Int.eq_ofNat_of_zero_le hin.1
      have hi : i < 74 := by omega
      have hXc : X = col i := by rw [← HX.out, colI_in hi]
      have hodd := col_odd hi
      have hpos := col_pos hi
      rw [← hXc] at hodd hpos
      obtain ⟨P, hP⟩ : ∃ P, pc X = P := ⟨_, rfl⟩
      rw [hP] at RW hodd
      have hPl : P ≤ 64 := by rw [← hP]; exact pc_le X
      have HRW := Lib.hid RW
      have i1 : (i : Int) < 74 := by omega
      have p1 : ((P : Int) % 2 == 1) = true := by rw [beq_iff_eq]; omega
      have p2 : ((P : Int) % 2 != 1) = false := by rw [bne_eq_false_iff_eq]; omega
      have x0 : ((X : Int) != 0) = true := by rw [bne_iff_ne]; omega
      have hYX : Y = X → a1 = (i : Int) := fun h => colI_eq hi (by rw [HY.out, h, hXc])
      have hXY : a1 = (i : Int) → Y = X := fun h => by rw [← HY.out, ← HX.out, h]
      by_cases hk : a1 = (i : Int)
      · have hYe := hXY hk
        subst hk hYe
        clear hin hXc hodd hpos hP RW hYX hXY
        gi_wp2_with fail
        refine ⟨trivial, ?_⟩
        refine (callsIn_wide.2 HRC.out).mono ?_
        rintro e w2 ⟨rfl, rfl⟩
        gi_wp2_with fail
        refine ⟨trivial, ?_⟩
        refine (callsIn_wide.2 HRW.out).mono ?_
        rintro e w2 ⟨rfl, rfl⟩
        gi_wp2
        gi_meet
        exact ⟨rfl, rfl⟩
      · have q1 : ((X : Int) == (Y : Int)) = false := by rw [beq_eq_false_iff_ne]; intro h; exact hk (hYX (by omega))
        clear hin hXc hodd hpos hP RW hYX hXY hk
        gi_wp2_with fail
        refine ⟨trivial, ?_⟩
        refine (callsIn_wide.2 HRC.out).mono ?_
        rintro e w2 ⟨rfl, rfl⟩
        gi_wp2_with fail
        refine ⟨trivial, ?_⟩
        refine (callsIn_wide.2 HRW.out).mono ?_
        rintro e w2 ⟨rfl, rfl⟩
        gi_wp2
        gi_meet
        exact ⟨rfl, rfl⟩
    · have hX0 : X = 0 := by rw [← HX.out]; exact colI_out hin
      subst hX0
      rw [show ((0 : Nat) : Int) = 0 from rfl] at HRC ⊢
      clear RW
      by_cases h0 : 0 ≤ a0
      · have h1 : ¬ a0 < 74 := by omega
        clear hin
        by_cases hY0 : Y = 0
        · subst hY0
          rw [show ((0 : Nat) : Int) = 0 from rfl]
          gi_wp2_with fail
          refine ⟨trivial, ?_⟩
          refine (callsIn_wide.2 HRC.out).mono ?_
          rintro e w2 ⟨rfl, rfl⟩
          gi_wp2
          refine ⟨trivial, ?_⟩
          gi_wp2
          gi_meet
          exact ⟨rfl, rfl⟩
        · have q1 : ((0 : Int) == (Y : Int)) = false := by rw [beq_eq_false_iff_ne]; omega
          gi_wp2_with fail
          refine ⟨trivial, ?_⟩
          refine (callsIn_wide.2 HRC.out).mono ?_
          rintro e w2 ⟨rfl, rfl⟩
          gi_wp2
          refine ⟨trivial, ?_⟩
          gi_wp2
          gi_meet
          exact ⟨rfl, rfl⟩
      · clear hin
        by_cases hY0 : Y = 0
        · subst hY0
          rw [show ((0 : Nat) : Int) = 0 from rfl]
          gi_wp2_with fail
          refine ⟨trivial, ?_⟩
          refine (callsIn_wide.2 HRC.out).mono ?_
          rintro e w2 ⟨rfl, rfl⟩
          gi_wp2
          refine ⟨trivial, ?_⟩
          gi_wp2
          gi_meet
          exact ⟨rfl, rfl⟩
        · have q1 : ((0 : Int) == (Y : Int)) = false := by rw [beq_eq_false_iff_ne]; omega
          gi_wp2_with fail
          refine ⟨trivial, ?_⟩
          refine (callsIn_wide.2 HRC.out).mono ?_
          rintro e w2 ⟨rfl, rfl⟩
          gi_wp2
          refine ⟨trivial, ?_⟩
          gi_wp2
          gi_meet
          exact ⟨rfl, rfl⟩
  case rest =>
    obtain ⟨rfl, rfl⟩ := hcut
    have d0 : ∀ o, (W3.alloc o).cell? ⟨b0, 0, none⟩ = some (.int .i64 a1) := fun o => (M0.out.alloc o).cell 0
    gi_wp2_with fail
    refine ⟨trivial, ?_⟩
    refine (callsIn_wide.2 (columns_any _ _)).mono ?_
    rintro e w4 ⟨rfl, hw4⟩
    simp only [World.size_alloc] at hw4 ⊢
    obtain ⟨bs, hbs⟩ : ∃ bs, W3.heap.size = bs := ⟨_, rfl⟩
    have lb : b0 + 2 < bs := by rw [← hbs]; exact Blk.lt MC.out
    have V0 : Blk w4 b0 3 #[.int .i64 a1] := by rw [hw4]; exact (M0.out.alloc _).alloc _
    have V1 : Blk w4 (b0 + 1) 4 #[.bool false] := by rw [hw4]; exact (M1.out.alloc _).alloc _
    have VC : CodeAt w4 (b0 + 2) := by rw [hw4]; exact (Blk.alloc MC.out _).alloc _
    have V3 : Blk w4 bs 3 #[.int .i64 0] := by rw [hw4, ← hbs]; exact (Blk.new W3 _ _).alloc _
    have V4 : Blk w4 (bs + 1) 23 #[.pointer (some ⟨b0 + 2, 0, none⟩)] := by
      rw [hw4, ← hbs]; have h := Blk.new (W3.alloc (.cells #[.int .i64 0] 3)) 23 #[.pointer (some ⟨b0 + 2, 0, none⟩)]
      rw [World.size_alloc] at h; exact h
    have VB : Below b0 w w4 := by rw [hw4]; exact (MB.out.alloc (by omega) _).alloc (by simp; omega) _
    have VZ : w4.heap.size = bs + 2 := by rw [hw4, ← hbs]; simp
    rw [hbs]
    have N0 := Lib.hid V0
    have N1 := Lib.hid V1
    have NC := Lib.hid VC
    have N3 := Lib.hid V3
    have N4 := Lib.hid V4
    have NB := Lib.hid VB
    have NZ := Lib.hid VZ
    clear M0 M1 MC MB d0 e0 e1 f1 V0 V1 VC V3 V4 VB VZ hw4 hbs
    gi_wp2
    refine iter_law3 (n := 6) rfl (by omega) (gf := 28) (lb := #[.pointer (some ⟨bs + 1, 0, none⟩)]) rfl trivial (enters_of Try.func28 (by kernel_rfl) rfl)
      (columns_iter (6 - 1) (by omega) (bs + 1) (b0 + 2)) (fun b => b < bs + 2) ?hSt ?hO (fun _ h => h.elim) (fun _ h => h.elim) (fun _ => rfl)
      (fun i O U => O = (fun b => b < bs + 2) ∧ Blk U bs 3 #[.int .i64 (i : Int)] ∧ Blk U b0 3 #[.int .i64 a1] ∧ Blk U (b0 + 1) 4 #[.bool false] ∧ Below b0 w U ∧ bs + 2 ≤ U.heap.size ∧ (a1 ≤ 0 ∨ (i : Int) < a1))
      (fun c i O U => c = .exit 0 ∧ O = (fun b => b < bs + 2) ∧ Blk U bs 3 #[.int .i64 (i : Int)] ∧ Blk U b0 3 #[.int .i64 a1] ∧ Blk U (b0 + 1) 4 #[.bool false] ∧ Below b0 w U ∧ bs + 2 ≤ U.heap.size ∧ (i : Int) = a1 ∧ i ≤ 74)
      ?hI ?hIx ?h0 ?act1 ?assign ?body ?done ?stop
    case hSt =>
      intro U hU
      have wz := NZ.out
      exact ⟨by rw [World.cell?_of_block (a := ⟨bs + 1, 0, none⟩) (hU (bs + 1) (by omega))]; exact N4.out.cell 0, (hU _ (by omega)).trans NC.out⟩
    case hO => intro b hb; have := NZ.out; omega
    case hI =>
      rintro i O A B ⟨rfl, h0, h1, h2, h3, h4, h5⟩ t
      have k := fun {b : Nat} {cs : Array Value} {ty : TypeId} (h : Blk A b ty cs) (hb : b < bs + 2) => (t.heap (fun e => e hb) h : Blk B b ty cs)
      exact ⟨rfl, k h0 (by omega), k h1 (by omega), k h2 (by omega), h3.trans (t.below (by omega) (fun b hb => by
        rcases Nat.lt_or_ge b b0 with hlt | hge
        · exact (hb (by omega)).elim
        · exact hge)), Nat.le_trans h4 t.size, h5⟩
    case hIx =>
      rintro c i O A B ⟨hc, rfl, h0, h1, h2, h3, h4, h5⟩ t
      have k := fun {b : Nat} {cs : Array Value} {ty : TypeId} (h : Blk A b ty cs) (hb : b < bs + 2) => (t.heap (fun e => e hb) h : Blk B b ty cs)
      exact ⟨hc, rfl, k h0 (by omega), k h1 (by omega), k h2 (by omega), h3.trans (t.below (by omega) (fun b hb => by
        rcases Nat.lt_or_ge b b0 with hlt | hge
        · exact (hb (by omega)).elim
        · exact hge)), Nat.le_trans h4 t.size, h5⟩
    case h0 => exact ⟨rfl, N3.out, N0.out, N1.out, NB.out, by have := NZ.out; omega, by omega⟩
    case assign =>
      intro l x W K hK
      gi_wp2
      exact hK
    case body =>
      rintro l i x O U hx hsz ⟨rfl, h0, h1, h2, h3, h4, h5⟩
      have hi : i < 74 := by have := (List.getElem?_eq_some_iff.1 hx).1; rw [colList_len] at this; exact this
      obtain rfl : x = (i, col i) := by rw [colList_get hi] at hx; exact (Option.some.inj hx).symm
      clear hx
      have e0 := h0.cell 0
      have f0 := h0.frozen 0
      have e1 := h1.cell 0
      simp only [List.getElem?_toArray, List.getElem?_cons_zero] at e0 e1
      have RC := refColumn_any (i : Int) (by omega) (by omega) U
      rw [colI_in hi] at RC
      obtain ⟨c, hc⟩ : ∃ c, col i = c := ⟨_, rfl⟩
      rw [hc] at RC ⊢
      have HRC := Lib.hid RC
      have g1 : ∀ v, (U.setCell ⟨bs, 0, none⟩ v).cell? ⟨b0, 0, none⟩ = some (.int .i64 a1) := fun v => by rw [World.cell?_setCell_other _ _ _ _ (by intro h; injection h with h; omega)]; exact e1
      have HI := Lib.hid (And.intro h0 (And.intro h1 (And.intro h2 (And.intro h3 (And.intro h4 h5)))))
      clear h0 h1 h2 h3 h4 h5 RC hc hsz
      by_cases hst : (i : Int) + 1 = a1
      · have q1 : ((i : Int) + 1 == a1) = true := by rw [beq_iff_eq]; exact hst
        have HST := Lib.hid hst
        clear hst
        gi_wp2_with fail
        refine ⟨trivial, ?_⟩
        refine (CallsIn.inRound l (callsIn_wide.2 HRC.out)).mono ?_
        rintro e w2 ⟨rfl, rfl⟩
        gi_wp2
        obtain ⟨h0, h1, h2, h3, h4, h5⟩ := HI.out
        exact ⟨_, (Grow.refl _ (fun b hb => by omega)).setCell (p := ⟨bs, 0, none⟩) (.inr ⟨by show bs < bs + 2; omega, fun h => h⟩) _, rfl, rfl, h0.set_ 0 _, h1.far (p := ⟨bs, 0, none⟩) (by show b0 ≠ bs; omega) _, h2.far (p := ⟨bs, 0, none⟩) (by show b0 + 1 ≠ bs; omega) _, h3.setCell (p := ⟨bs, 0, none⟩) (by show b0 ≤ bs; omega) _, by simp [World.setCell]; exact h4, by have := HST.out; omega, by omega⟩
      · have q1 : ((i : Int) + 1 == a1) = false := by rw [beq_eq_false_iff_ne]; exact hst
        have HST := Lib.hid hst
        clear hst
        gi_wp2_with fail
        refine ⟨trivial, ?_⟩
        refine (CallsIn.inRound l (callsIn_wide.2 HRC.out)).mono ?_
        rintro e w2 ⟨rfl, rfl⟩
        gi_wp2
        obtain ⟨h0, h1, h2, h3, h4, h5⟩ := HI.out
        exact ⟨_, (Grow.refl _ (fun b hb => by omega)).setCell (p := ⟨bs, 0, none⟩) (.inr ⟨by show bs < bs + 2; omega, fun h => h⟩) _, rfl, h0.set_ 0 _, h1.far (p := ⟨bs, 0, none⟩) (by show b0 ≠ bs; omega) _, h2.far (p := ⟨bs, 0, none⟩) (by show b0 + 1 ≠ bs; omega) _, h3.setCell (p := ⟨bs, 0, none⟩) (by show b0 ≤ bs; omega) _, by simp [World.setCell]; exact h4, by have := HST.out; omega⟩
    case done =>
      rintro Dm O1 U hD hnD ⟨rfl, h0, h1, h2, h3, h4, h5⟩ hK
      rw [colList_len, show ((74 : Nat) : Int) = 74 from rfl] at h0
      have e0 := h0.cell 0
      have e1 := h1.cell 0
      have e2 := h2.cell 0
      have f2 := h2.frozen 0
      simp only [List.getElem?_toArray, List.getElem?_cons_zero] at e0 e1 e2
      have H3 := Lib.hid h3
      have HK := Lib.hid hK
      clear h0 h1 h2 h3 h4 hK
      gi_wp2
      have hKD := (KeepsOthers.setCell U ⟨b0 + 1, 0, none⟩ (.bool true)).same Dm _ HK.out rfl
      refine ⟨by simp, .inl ⟨_, _, rfl, run_takeDeferred hKD, ?_⟩⟩
      have hcell := cell_kept (World.cell?_setCell_same' U ⟨b0 + 1, 0, none⟩ (.bool true) (by rw [e2]; rfl)) (grownBy_putObj' _ Dm (.deferred none)) (fun r e => by cases e; exact ⟨_, hKD, rfl⟩)
      refine ⟨_, by simp [results, Try.results4, go_sem, hcell], rfl, ?_⟩
      have q := H3.out
      rw [← HB0.out] at q
      exact (q.setCell (p := ⟨b0 + 1, 0, none⟩) (by have := HB0.out; show w.heap.size ≤ b0 + 1; omega) _).trans ((Turn.putObj (S := fun b => w.heap.size ≤ b) _ (l := Dm) (by have := HB0.out; have := NZ.out; omega) _).below (by have := q.size; simp [World.setCell]; exact this) (fun b hb => hb))
    case stop =>
      rintro Dm c i O1 U hD hnD hlen ⟨rfl, rfl, h0, h1, h2, h3, h4, h5, h6⟩ hK
      by_cases h74 : i + 1 = 74
      · rw [h74, show ((74 : Nat) : Int) = 74 from rfl] at h0
        clear h5 h6 hlen
        have e0 := h0.cell 0
        have e1 := h1.cell 0
        have e2 := h2.cell 0
        have f2 := h2.frozen 0
        simp only [List.getElem?_toArray, List.getElem?_cons_zero] at e0 e1 e2
        have H3 := Lib.hid h3
        have HK := Lib.hid hK
        clear h0 h1 h2 h3 h4 hK
        gi_wp2
        have hKD := (KeepsOthers.setCell U ⟨b0 + 1, 0, none⟩ (.bool true)).same Dm _ HK.out rfl
        refine ⟨by simp, .inl ⟨_, _, rfl, run_takeDeferred hKD, ?_⟩⟩
        have hcell := cell_kept (World.cell?_setCell_same' U ⟨b0 + 1, 0, none⟩ (.bool true) (by rw [e2]; rfl)) (grownBy_putObj' _ Dm (.deferred none)) (fun r e => by cases e; exact ⟨_, hKD, rfl⟩)
        refine ⟨_, by simp [results, Try.results4, go_sem, hcell], rfl, ?_⟩
        have q := H3.out
        rw [← HB0.out] at q
        exact (q.setCell (p := ⟨b0 + 1, 0, none⟩) (by have := HB0.out; show w.heap.size ≤ b0 + 1; omega) _).trans ((Turn.putObj (S := fun b => w.heap.size ≤ b) _ (l := Dm) (by have := HB0.out; have := NZ.out; omega) _).below (by have := q.size; simp [World.setCell]; exact this) (fun b hb => hb))
      · have q1 : (a1 == 74) = false := by rw [beq_eq_false_iff_ne]; omega
        rw [h5] at h0
        clear h5 h6 hlen h74
        have e0 := h0.cell 0
        have e1 := h1.cell 0
        have e2 := h2.cell 0
        have f2 := h2.frozen 0
        simp only [List.getElem?_toArray, List.getElem?_cons_zero] at e0 e1 e2
        have H3 := Lib.hid h3
        have HK := Lib.hid hK
        clear h0 h1 h2 h3 h4 hK
        gi_wp2
        have hKD := (KeepsOthers.setCell U ⟨b0 + 1, 0, none⟩ (.bool true)).same Dm _ HK.out rfl
        refine ⟨by simp, .inl ⟨_, _, rfl, run_takeDeferred hKD, ?_⟩⟩
        have hcell := cell_kept (World.cell?_setCell_same' U ⟨b0 + 1, 0, none⟩ (.bool true) (by rw [e2]; rfl)) (grownBy_putObj' _ Dm (.deferred none)) (fun r e => by cases e; exact ⟨_, hKD, rfl⟩)
        refine ⟨_, by simp [results, Try.results4, go_sem, hcell], rfl, ?_⟩
        have q := H3.out
        rw [← HB0.out] at q
        exact (q.setCell (p := ⟨b0 + 1, 0, none⟩) (by have := HB0.out; show w.heap.size ≤ b0 + 1; omega) _).trans ((Turn.putObj (S := fun b => w.heap.size ≤ b) _ (l := Dm) (by have := HB0.out; have := NZ.out; omega) _).below (by have := q.size; simp [World.setCell]; exact this) (fun b hb => hb))
end Go.Proofs.Ytbhonojfglhbeaa
