/- hsiao's check bits, syndromes and decoding: walks. -/
import Derived.Test.YtbhonojfglhbeaaHsW
import Derived.Test.YtbhonojfglhbeaaBitO
import Derived.Test.YtbhonojfglhbeaaQTail
import Derived.Test.YtbhonojfglhbeaaRf3
import Derived.Sort.BigQuietIn
import Derived.Sort.CutIn
import Derived.Lib.Agree
namespace Go.Proofs.Ytbhonojfglhbeaa
open Go.RowKit Go.Shelf
attribute [local go_sem] Oper.semAt_some

theorem u8_xorN (a b : Nat) (ha : a < 256) (hb : b < 256) : bits .xor .u8 (a : Int) (b : Int) = ((a ^^^ b : Nat) : Int) := by
  have h8 : ∀ c : Nat, c < 256 → (BitVec.ofInt 8 (c : Int)).toNat = c := by
    intro c hc
    rw [BitVec.ofInt_natCast, BitVec.toNat_ofNat]; exact Nat.mod_eq_of_lt (by omega)
  have hx : a ^^^ b < 2 ^ 8 := Nat.xor_lt_two_pow ha hb
  show IntKind.u8.wrap ((BitVec.ofInt 8 (a : Int) ^^^ BitVec.ofInt 8 (b : Int)).toNat : Int) = _
  rw [BitVec.toNat_xor, h8 a ha, h8 b hb]
  exact IntWalk.u8_in _ (by omega)
/-- The lowest bit of an int. -/
def low (a : Int) : Nat := (a % 2).toNat
theorem low_lt (a : Int) : low a < 2 := by unfold low; omega
theorem i64_and1I (a : Int) : bits .and .i64 a 1 = (low a : Int) := by
  show IntKind.i64.wrap ((BitVec.ofInt 64 a &&& BitVec.ofInt 64 1).toNat : Int) = _
  have h1 : (BitVec.ofInt 64 1).toNat = 1 := rfl
  rw [BitVec.toNat_and, h1, Nat.and_one_is_mod, BitVec.toNat_ofInt, IntKind.wrap_i64]
  unfold low
  omega

set_option maxRecDepth 100000 in
set_option maxHeartbeats 2000000 in
theorem check_any (g : Nat) (d : Nat) (ld : d < 18446744073709551616) (a p : Int) (w : World) (hg : CodeAt w g) :
    Calls Try.prog 12 #[.pointer (some ⟨g, 0, none⟩), .int .u64 (d : Int), .int .i64 a, .int .i64 p] w fun e w' => e = .returned (.int .u8 (chk d (low a) (low p) : Nat)) ∧ Below w.heap.size w w' := by
  have la := i64_and1I a
  have lp := i64_and1I p
  have lg : g < w.heap.size := Blk.lt hg
  have ma := low_lt a
  have mp := low_lt p
  obtain ⟨x, hx⟩ : ∃ x, low a = x := ⟨_, rfl⟩
  obtain ⟨y, hy⟩ : ∃ y, low p = y := ⟨_, rfl⟩
  rw [hx] at la ma ⊢
  rw [hy] at lp mp ⊢
  obtain ⟨b0, hb0⟩ : ∃ b0, w.heap.size = b0 := ⟨_, rfl⟩
  rw [hb0] at lg
  have HG := Lib.hid hg
  have HB0 := Lib.hid hb0
  clear hg hx hy hb0
  refine (callsIn_wide (n := 6)).1 ?_
  refine callsIn_of_wp_marks Try.func12 rfl trivial ?_ rfl
  simp only [Try.ntmps12, List.size_toArray, List.length_cons, List.length_nil, Nat.reduceAdd, Nat.reduceSub, Array.replicate_succ, Array.replicate_zero, List.push_toArray, List.append_toArray, List.nil_append, List.cons_append]
  gi_wp2_with fail
  refine ⟨trivial, ?_⟩
  refine (callsIn_wide.2 (ones64_any _ _)).mono ?_
  rintro e w3 ⟨rfl, hw3⟩
  simp only [World.size_alloc] at hw3 ⊢
  rw [HB0.out]
  have V0 : Blk w3 b0 23 #[.pointer (some ⟨g, 0, none⟩)] := by rw [hw3, ← HB0.out]; exact ((Blk.new w _ _).alloc _).alloc _
  have V1 : Blk w3 (b0 + 1) 5 #[.int .u8 ((xfold 0 ((ones d).take 0) : Nat) : Int)] := by
    rw [hw3, ← HB0.out]; have h := (Blk.new (w.alloc (.cells #[.pointer (some ⟨g, 0, none⟩)] 23)) 5 #[.int .u8 0]).alloc (.cells #[.int .u64 (d : Int)] 22)
    rw [World.size_alloc] at h; exact h
  have V2 : Blk w3 (b0 + 2) 22 #[.int .u64 (d : Int)] := by
    rw [hw3, ← HB0.out]; have h := (Blk.new ((w.alloc (.cells #[.pointer (some ⟨g, 0, none⟩)] 23)).alloc (.cells #[.int .u8 0] 5)) 22 #[.int .u64 (d : Int)])
    rw [World.size_alloc, World.size_alloc] at h; exact h
  have VB : Below b0 w w3 := by rw [hw3, ← HB0.out]; exact (((Below.refl _ w).alloc (Nat.le_refl _) _).alloc (by simp) _).alloc (by simp; omega) _
  have VG : CodeAt w3 g := by rw [hw3]; exact ((Blk.alloc HG.out _).alloc _).alloc _
  have VZ : w3.heap.size = b0 + 3 := by rw [hw3, ← HB0.out]; simp
  have W0 := Lib.hid V0
  have W1 := Lib.hid V1
  have W2 := Lib.hid V2
  have WB := Lib.hid VB
  have WG := Lib.hid VG
  have WZ := Lib.hid VZ
  clear V0 V1 V2 VB VG VZ hw3 HG
  gi_wp2
  refine iter_law (n := 6) rfl (by omega) (gf := 32) (lb := #[.pointer (some ⟨b0 + 2, 0, none⟩)]) rfl trivial (enters_of Try.func32 (by kernel_rfl) rfl)
    (ones64_iter (6 - 1) (by omega) (b0 + 2) d ld) ?hSt ?hSl ?hKl (fun _ => rfl)
    (fun i U => Blk U (b0 + 1) 5 #[.int .u8 ((xfold 0 ((ones d).take i) : Nat) : Int)] ∧ Blk U b0 23 #[.pointer (some ⟨g, 0, none⟩)] ∧ CodeAt U g ∧ Below b0 w U ∧ b0 + 3 ≤ U.heap.size)
    (fun _ _ _ => False)
    ?hI (fun _ _ _ _ h _ => h.elim) ?h0 ?act1 ?assign ?body ?done (fun _ _ _ _ _ _ h _ => h.elim)
  case hSt =>
    intro U hU
    exact (hU _ (by have := WZ.out; omega)).trans W2.out
  case hSl => rintro c rfl; have := WZ.out; omega
  case hKl => rintro c rfl; have := WZ.out; omega
  case hI =>
    rintro i A B ⟨h0, h1, h2, h3, h4⟩ t
    exact ⟨t.heap (other_cells h0 (by omega)) h0, t.heap (other_cells h1 (by omega)) h1, t.heap (other_cells h2 (by omega)) h2, h3.trans (t.below (by have := HB0.out; have := h3.size; omega) (fun b hb => by have := WZ.out; rcases hb with hb | ⟨hb, _⟩ <;> omega)), Nat.le_trans h4 t.size⟩
  case h0 => exact ⟨W1.out, W0.out, WG.out, WB.out, by have := WZ.out; omega⟩
  case assign =>
    intro l x W K hK
    gi_wp2
    exact hK
  case body =>
    rintro l i q U hy ⟨h0, h1, h2, h3, h4⟩
    have hq64 : q < 64 := by
      obtain ⟨_, h, _⟩ := onesTo_mem 64 0 d q (List.mem_of_getElem? hy)
      omega
    have hst : xfold 0 ((ones d).take (i + 1)) = xfold 0 ((ones d).take i) ^^^ col q := by rw [List.take_add_one, hy, Option.toList_some, xfold_snoc]
    have hc := h2.col (i := q) (by omega)
    have lx : xfold 0 ((ones d).take i) < 256 := by
      have : ∀ (l : List Nat) (s : Nat), s < 256 → xfold s l < 256 := by
        intro l
        induction l with
        | nil => intro s hs; exact hs
        | cons j l ih => intro s hs; exact ih _ (Nat.xor_lt_two_pow (n := 8) hs (col_lt j))
      exact this _ 0 (by omega)
    obtain ⟨X, hX⟩ : ∃ X, xfold 0 ((ones d).take i) = X := ⟨_, rfl⟩
    obtain ⟨c, hcc⟩ : ∃ c, col q = c := ⟨_, rfl⟩
    have lc := col_lt q
    rw [hX] at h0 hst lx
    rw [hcc] at hc hst lc
    have hxor := u8_xorN X c lx lc
    rw [← hst] at hxor
    have e0 := h0.cell 0
    have f0 := h0.frozen 0
    have e1 := h1.cell 0
    simp only [List.getElem?_toArray, List.getElem?_cons_zero] at e0 e1
    have i1 : (q : Int) < 74 := by omega
    have HI := Lib.hid (And.intro h0 (And.intro h1 (And.intro h2 (And.intro h3 h4))))
    clear h0 h1 h2 h3 h4 hst hX hcc hy la lp lx lc
    obtain ⟨Y, hY⟩ : ∃ Y, xfold 0 ((ones d).take (i + 1)) = Y := ⟨_, rfl⟩
    rw [hY] at hxor
    have HYY := Lib.hid hY
    clear hY
    gi_upto_region 4 with fail
    refine wpIn_region_tail 8 (by kernel_rfl) (by kernel_rfl) ?_
    simp only [List.take_succ_cons, List.take_zero, List.drop_succ_cons, List.drop_zero]
    repeat (gi_big_quiet_step ((fail)))
    refine wpQuietIn_nil ?_
    intro _ hw'
    obtain ⟨nq, hw''⟩ := hw'
    subst hw''
    gi_wp2
    obtain ⟨h0, h1, h2, h3, h4⟩ := HI.out
    refine ⟨⟨(KeepsOthers.setCell (U.drewN nq) ⟨b0 + 1, 0, none⟩ _).size, fun k o _ => (KeepsOthers.setCell (U.drewN nq) ⟨b0 + 1, 0, none⟩ _).same k o⟩, ⟨by simp [World.setCell], fun b hb => ?_⟩, by rw [HYY.out]; exact (h0.drewN nq).set_ 0 _, (h1.drewN nq).far (p := ⟨b0 + 1, 0, none⟩) (by show b0 ≠ b0 + 1; omega) _, Blk.far (Blk.drewN h2 nq) (p := ⟨b0 + 1, 0, none⟩) (by show g ≠ b0 + 1; omega) _, (below_drewN h3 nq).setCell (p := ⟨b0 + 1, 0, none⟩) (by show b0 ≤ b0 + 1; omega) _, by simp [World.setCell]; exact h4⟩
    exact Below.heap_setCell (U.drewN nq) ⟨b0 + 1, 0, none⟩ _ b (by show b ≠ b0 + 1; have hb2 : b = b0 + 2 := hb; omega)
  case done =>
    rintro D U hD ⟨h0, h1, h2, h3, h4⟩ hDD
    rw [List.take_length] at h0
    have hcs : xfold 0 (ones d) = cs d := by unfold ones cs; rw [xfold_ones, Nat.zero_xor]
    rw [hcs] at h0
    have hch : chk d x y = cs d ^^^ mark x 72 ^^^ mark y 73 := rfl
    have lc := cs_lt d
    obtain ⟨X, hX⟩ : ∃ X, cs d = X := ⟨_, rfl⟩
    rw [hX] at h0 lc hch
    have c72 := h2.col (i := 72) (by omega)
    have c73 := h2.col (i := 73) (by omega)
    have l72 := col_lt 72
    have l73 := col_lt 73
    have m72 : mark x 72 = if x % 2 = 1 then col 72 else 0 := rfl
    have m73 : mark y 73 = if y % 2 = 1 then col 73 else 0 := rfl
    obtain ⟨P, hP⟩ : ∃ P, col 72 = P := ⟨_, rfl⟩
    obtain ⟨Q, hQ⟩ : ∃ Q, col 73 = Q := ⟨_, rfl⟩
    rw [hP] at c72 l72 m72
    rw [hQ] at c73 l73 m73
    rw [m72, m73] at hch
    have e0 := h0.cell 0
    have f0 := h0.frozen 0
    have e1 := h1.cell 0
    simp only [List.getElem?_toArray, List.getElem?_cons_zero] at e0 e1
    have HI := Lib.hid (And.intro h0 (And.intro h1 (And.intro h2 (And.intro h3 (And.intro h4 (And.intro hDD hD))))))
    have HCH := Lib.hid hch
    clear h0 h1 h2 h3 h4 hDD hD hcs hX hP hQ m72 m73 hch W0 W1 W2 WB WG
    have x1 := u8_xorN X P lc l72
    have x2 := u8_xorN X Q lc l73
    have x3 := u8_xorN (X ^^^ P) Q (Nat.xor_lt_two_pow (n := 8) lc l72) l73
    have hx2 : x = 0 ∨ x = 1 := by omega
    have hy2 : y = 0 ∨ y = 1 := by omega
    clear ma mp
    rcases hx2 with rfl | rfl <;> rcases hy2 with rfl | rfl
    · rw [show ((0 : Nat) : Int) = 0 from rfl] at la lp
      have HC := Lib.hid (show chk d 0 0 = X by rw [HCH.out]; simp)
      clear HCH x1 x2 x3
      gi_wp2
      obtain ⟨h0, h1, h2, h3, h4, hDD, hD⟩ := HI.out
      refine ⟨by simp, .inl ⟨_, _, rfl, run_takeDeferred (b := D) (hDD), ?_⟩⟩
      refine ⟨_, by simp [results, Try.results12, go_sem], congrArg (fun z : Nat => Ending.returned (.int .u8 (z : Int))) HC.out.symm, ?_⟩
      have lb : w.heap.size ≤ b0 + 1 := by have := HB0.out; omega
      have lD : w.heap.size ≤ D := by have := HB0.out; have := WZ.out; omega
      have bb : Below w.heap.size w U := by rw [HB0.out]; exact h3
      have bt := bb
      exact bt.trans ((Turn.putObj (S := fun b => w.heap.size ≤ b) _ (l := D) lD _).below bt.size (fun b hb => hb))
    · rw [show ((0 : Nat) : Int) = 0 from rfl] at la
      rw [show ((1 : Nat) : Int) = 1 from rfl] at lp
      have HC := Lib.hid (show chk d 0 1 = X ^^^ Q by rw [HCH.out]; simp)
      clear HCH x1 x3
      gi_upto_region 8 with fail
      refine wpIn_region_tail 7 (by kernel_rfl) (by kernel_rfl) ?_
      simp only [List.take_succ_cons, List.take_zero, List.drop_succ_cons, List.drop_zero]
      repeat (gi_big_quiet_step ((fail)))
      refine wpQuietIn_nil ?_
      intro _ hw'
      obtain ⟨nq, hw''⟩ := hw'
      subst hw''
      gi_wp2
      obtain ⟨h0, h1, h2, h3, h4, hDD, hD⟩ := HI.out
      refine ⟨by simp, .inl ⟨_, _, rfl, run_takeDeferred (b := D) ((KeepsOthers.setCell (U.drewN nq) ⟨b0 + 1, 0, none⟩ _).same D _ hDD rfl), ?_⟩⟩
      refine ⟨_, by simp [results, Try.results12, go_sem], congrArg (fun z : Nat => Ending.returned (.int .u8 (z : Int))) HC.out.symm, ?_⟩
      have lb : w.heap.size ≤ b0 + 1 := by have := HB0.out; omega
      have lD : w.heap.size ≤ D := by have := HB0.out; have := WZ.out; omega
      have bb : Below w.heap.size w U := by rw [HB0.out]; exact h3
      have bt := (below_drewN bb nq).setCell (p := ⟨b0 + 1, 0, none⟩) lb (.int .u8 ((X ^^^ Q : Nat) : Int))
      exact bt.trans ((Turn.putObj (S := fun b => w.heap.size ≤ b) _ (l := D) lD _).below bt.size (fun b hb => hb))
    · rw [show ((0 : Nat) : Int) = 0 from rfl] at lp
      rw [show ((1 : Nat) : Int) = 1 from rfl] at la
      have HC := Lib.hid (show chk d 1 0 = X ^^^ P by rw [HCH.out]; simp)
      clear HCH x2 x3
      gi_upto_region 6 with fail
      refine wpIn_region_tail 7 (by kernel_rfl) (by kernel_rfl) ?_
      simp only [List.take_succ_cons, List.take_zero, List.drop_succ_cons, List.drop_zero]
      repeat (gi_big_quiet_step ((fail)))
      refine wpQuietIn_nil ?_
      intro _ hw'
      obtain ⟨nq, hw''⟩ := hw'
      subst hw''
      gi_wp2
      obtain ⟨h0, h1, h2, h3, h4, hDD, hD⟩ := HI.out
      refine ⟨by simp, .inl ⟨_, _, rfl, run_takeDeferred (b := D) ((KeepsOthers.setCell (U.drewN nq) ⟨b0 + 1, 0, none⟩ _).same D _ hDD rfl), ?_⟩⟩
      refine ⟨_, by simp [results, Try.results12, go_sem], congrArg (fun z : Nat => Ending.returned (.int .u8 (z : Int))) HC.out.symm, ?_⟩
      have lb : w.heap.size ≤ b0 + 1 := by have := HB0.out; omega
      have lD : w.heap.size ≤ D := by have := HB0.out; have := WZ.out; omega
      have bb : Below w.heap.size w U := by rw [HB0.out]; exact h3
      have bt := (below_drewN bb nq).setCell (p := ⟨b0 + 1, 0, none⟩) lb (.int .u8 ((X ^^^ P : Nat) : Int))
      exact bt.trans ((Turn.putObj (S := fun b => w.heap.size ≤ b) _ (l := D) lD _).below bt.size (fun b hb => hb))
    · rw [show ((1 : Nat) : Int) = 1 from rfl] at la lp
      have HC := Lib.hid (show chk d 1 1 = X ^^^ P ^^^ Q by rw [HCH.out]; simp)
      clear HCH x2
      gi_upto_region 6 with fail
      refine wpIn_region_tail 7 (by kernel_rfl) (by kernel_rfl) ?_
      simp only [List.take_succ_cons, List.take_zero, List.drop_succ_cons, List.drop_zero]
      repeat (gi_big_quiet_step ((fail)))
      refine wpQuietIn_nil ?_
      intro _ hw'
      obtain ⟨nq, hw''⟩ := hw'
      subst hw''
      gi_upto_region 8 with fail
      obtain ⟨n1, hn1⟩ : ∃ n1, n1 = nq := ⟨_, rfl⟩
      subst hn1
      obtain ⟨U2, hU2⟩ : ∃ U2, (U.drewN n1).setCell ⟨b0 + 1, 0, none⟩ (.int .u8 ((X ^^^ P : Nat) : Int)) = U2 := ⟨_, rfl⟩
      rw [hU2]
      have e0 : U2.cell? ⟨b0 + 1, 0, none⟩ = some (.int .u8 ((X ^^^ P : Nat) : Int)) := by
        rw [← hU2]; have h := (((HI.out.1).drewN n1).set_ 0 (.int .u8 ((X ^^^ P : Nat) : Int))).cell 0; exact h
      have f0 : U2.frozen? ⟨b0 + 1, 0, none⟩ = false := by
        rw [← hU2]; exact (((HI.out.1).drewN n1).set_ 0 (.int .u8 ((X ^^^ P : Nat) : Int))).frozen 0
      have e1 : U2.cell? ⟨b0, 0, none⟩ = some (.pointer (some ⟨g, 0, none⟩)) := by
        rw [← hU2]; exact ((HI.out.2.1.drewN n1).far (p := ⟨b0 + 1, 0, none⟩) (by show b0 ≠ b0 + 1; omega) _).cell 0
      have c73 : U2.cell? ⟨g, 73, none⟩ = some (.int .u8 (Q : Int)) := by
        rw [← hU2, World.cell?_setCell_other _ _ _ _ (by intro h; injection h with h; omega)]; exact c73
      have HU2 := Lib.hid hU2
      clear hU2
      refine wpIn_region_tail 7 (by kernel_rfl) (by kernel_rfl) ?_
      simp only [List.take_succ_cons, List.take_zero, List.drop_succ_cons, List.drop_zero]
      repeat (gi_big_quiet_step ((fail)))
      refine wpQuietIn_nil ?_
      intro _ hw'
      obtain ⟨nq, hw''⟩ := hw'
      subst hw''
      gi_wp2
      obtain ⟨h0, h1, h2, h3, h4, hDD, hD⟩ := HI.out
      refine ⟨by simp, .inl ⟨_, _, rfl, run_takeDeferred (b := D) ((KeepsOthers.setCell (U2.drewN nq) ⟨b0 + 1, 0, none⟩ _).same D _ (show U2.heap[D]? = _ by rw [← HU2.out]; exact (KeepsOthers.setCell (U.drewN n1) ⟨b0 + 1, 0, none⟩ _).same D _ hDD rfl) rfl), ?_⟩⟩
      refine ⟨_, by simp [results, Try.results12, go_sem], congrArg (fun z : Nat => Ending.returned (.int .u8 (z : Int))) HC.out.symm, ?_⟩
      have lb : w.heap.size ≤ b0 + 1 := by have := HB0.out; omega
      have lD : w.heap.size ≤ D := by have := HB0.out; have := WZ.out; omega
      have bb : Below w.heap.size w U := by rw [HB0.out]; exact h3
      have bt := (below_drewN (show Below w.heap.size w U2 by rw [← HU2.out]; exact (below_drewN bb n1).setCell (p := ⟨b0 + 1, 0, none⟩) lb _) nq).setCell (p := ⟨b0 + 1, 0, none⟩) lb (.int .u8 ((X ^^^ P ^^^ Q : Nat) : Int))
      exact bt.trans ((Turn.putObj (S := fun b => w.heap.size ≤ b) _ (l := D) lD _).below bt.size (fun b hb => hb))
end Go.Proofs.Ytbhonojfglhbeaa
