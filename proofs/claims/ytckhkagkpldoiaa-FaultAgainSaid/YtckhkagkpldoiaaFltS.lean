/- Overlay of two faults in a slice just made; a drawn region's operation that makes such a slice. -/
import Derived.Test.YtckhkagkpldoiaaFltO
import Derived.Test.YtckhkagkpldoiaaCovA
namespace Go.Proofs.Ytckhkagkpldoiaa
open Go.RowKit Go.Shelf
set_option linter.unusedVariables false

/-- A slice with a block of its own. -/
def SlB (B : Nat) (T : TypeId) (cs : Array Value) (n : Nat) (v : Value) (W : World) : Prop := ∃ g, v = .slice (some ⟨g, 0, none⟩) n n ∧ B ≤ g ∧ Blk W g T cs
theorem SlB.step {B : Nat} {T : TypeId} {cs : Array Value} {n : Nat} {v : Value} {W W' : World} (h : SlB B T cs n v W) (hb : BelowR W W') : SlB B T cs n v W' := by
  obtain ⟨g, e, hB, h⟩ := h
  exact ⟨g, e, hB, h.below hb h.lt⟩
section
variable {F : Fence} {n : Nat} {P : Program} {L : List Oper} {N : Nat} {Q : Exit → Act → World → Prop} {V : Nat → Value → World → Prop} {D : Nat → List Nat} {a : Act} {w : World} {k : Nat} {o : Oper}
theorem held_bslG (hF : Fence.free F) (hg : HeldGd L N V BelowR D a w k o) (hnd : noDefer o = true) (T : TypeId) (m : Nat) (cs : Array Value)
    (hr : ∀ (xs : Nat → Value) (w' : World), (∀ j ∈ D k, V j (xs j) w') → BelowR w w' → (execOp (putsH xs (L.take N) 0 a).eval o).run P w' = .ok (.value (.slice (some ⟨w'.heap.size, 0, none⟩) m m)) (w'.alloc (.cells cs T)))
    (hV : ∀ v w', SlB w.heap.size T cs m v w' → V k v w') : HeldOp F n P L N Q V BelowR D a w k o := by
  refine ⟨?_⟩
  intro xs w' hk hR K hK
  rw [if_pos (hg.out xs w' hk hR)]
  unfold Oper.wpIn
  refine ⟨fun f _ => hF.2 f, ?_⟩
  rw [Oper.semAt_plain F _ o (noDefer_spec hnd), hr xs w' hk hR]
  exact ⟨_, rfl, hK _ _ (hV _ _ ⟨_, rfl, hR.size, Blk.new w' _ _⟩) ((Below.refl _ w').alloc (Nat.le_refl _) _)⟩
end
/-- The cells of two faults. -/
def twoC (f g : List Int) : Array Value := ((f ++ g).map fun z => Value.int .i64 z).toArray
theorem rd_two {W : World} {s : Nat} {f g : List Int} (hf : f.length = 8) (hg : g.length = 8) (h : Blk W s 25 (twoC f g)) : RdS 8 W (some ⟨s, 0, none⟩) (rowsI [f, g]) := by
  intro i r hr
  have hi : i < 2 := by have := (List.getElem?_eq_some_iff.1 hr).1; simpa [rowsI] using this
  have key : ∀ j z, (f ++ g)[j]? = some z → W.cell? ⟨s, j, none⟩ = some (.int .i64 z) := fun j z hz => by
    refine (h.cell j).trans ?_
    unfold twoC
    rw [List.getElem?_toArray, List.getElem?_map, hz]
    rfl
  have hi2 : i = 0 ∨ i = 1 := by omega
  rcases hi2 with rfl | rfl
  · obtain rfl : (f.map fun z => Value.int .i64 z) = r := Option.some.inj hr
    refine ⟨by rw [List.length_map, hf], s, 0, rfl, h.lt, fun j v hv => ?_⟩
    rw [List.getElem?_map] at hv
    obtain ⟨z, hz, rfl⟩ := Option.map_eq_some_iff.1 hv
    have := (List.getElem?_eq_some_iff.1 hz).1
    have e := key j z (by rw [List.getElem?_append_left this]; exact hz)
    simpa using e
  · obtain rfl : (g.map fun z => Value.int .i64 z) = r := Option.some.inj hr
    refine ⟨by rw [List.length_map, hg], s, 0, rfl, h.lt, fun j v hv => ?_⟩
    rw [List.getElem?_map] at hv
    obtain ⟨z, hz, rfl⟩ := Option.map_eq_some_iff.1 hv
    have e := key (8 + j) z (by rw [List.getElem?_append_right (by omega), hf, Nat.add_sub_cancel_left]; exact hz)
    simpa using e
theorem over2_any (s : Nat) (f0 f1 f2 f3 f4 f5 f6 f7 g0 g1 g2 g3 g4 g5 g6 g7 mode q0 q1 q2 q3 : Int) (xs : List UInt8) (lx : xs.length = 72) (b1 : -9223372036854775808 ≤ f6) (b2 : f6 ≤ 9223372036854775807) (b3 : -9223372036854775808 ≤ g6) (b4 : g6 ≤ 9223372036854775807) (w : World) (hb : Blk w s 25 #[.int .i64 f0, .int .i64 f1, .int .i64 f2, .int .i64 f3, .int .i64 f4, .int .i64 f5, .int .i64 f6, .int .i64 f7, .int .i64 g0, .int .i64 g1, .int .i64 g2, .int .i64 g3, .int .i64 g4, .int .i64 g5, .int .i64 g6, .int .i64 g7]) :
    Calls Try.prog 25 #[.slice (some ⟨s, 0, none⟩) 2 2, .int .i64 mode, .agg #[.int .i64 q0, .int .i64 q1, .int .i64 q2, .int .i64 q3], .agg (rawV xs)] w fun e w' => e = .returned (.agg (rawV (fapply g0 g1 g2 g3 g4 g5 g6 g7 mode q0 q1 q2 q3 (fapply f0 f1 f2 f3 f4 f5 f6 f7 mode q0 q1 q2 q3 xs)))) ∧ Below w.heap.size w w' :=
  over_any (some ⟨s, 0, none⟩) 2 2 [[f0, f1, f2, f3, f4, f5, f6, f7], [g0, g1, g2, g3, g4, g5, g6, g7]] mode q0 q1 q2 q3 xs (by omega) rfl (by simp) (fun k hk => by
    have h : k = 0 ∨ k = 1 := by omega
    rcases h with rfl | rfl
    · exact ⟨b1, b2⟩
    · exact ⟨b3, b4⟩) lx w (rd_two rfl rfl hb)
theorem over0_any (mode q0 q1 q2 q3 : Int) (xs : List UInt8) (lx : xs.length = 72) (w : World) :
    Calls Try.prog 25 #[.slice none 0 0, .int .i64 mode, .agg #[.int .i64 q0, .int .i64 q1, .int .i64 q2, .int .i64 q3], .agg (rawV xs)] w fun e w' => e = .returned (.agg (rawV xs)) ∧ Below w.heap.size w w' :=
  over_any none 0 0 [] mode q0 q1 q2 q3 xs (by omega) rfl (by simp) (fun k hk => by omega) lx w RdS.nil
section
variable {P : Program} {w w2 : World} {o : Oper} {ρ : Operand → Value}
theorem run_bsl2 {T : TypeId} {x y : Operand} (ho : o.op = .buildSlice T 2 #[(0, x), (1, y)]) {vx vy v' : Value} (hx : ρ x = vx) (hy : ρ y = vy) (hr : (Instr.buildSlice T 2 #[(0, vx), (1, vy)]).run P w = .ok v' w2) : (execOp ρ o).run P w = .ok (.value v') w2 := by
  subst hx hy
  unfold execOp
  simp only [ho, List.map_toArray, List.map_cons, List.map_nil, Sem.run_bind, hr, Result.andThen_ok, Sem.run_pure]
end
end Go.Proofs.Ytckhkagkpldoiaa
namespace Go.Proofs.Ytckhkagkpldoiaa
open Go
set_option linter.unusedVariables false
/-- A byte with one bit forced. -/
def fbB (y : UInt8) (r l : Nat) : UInt8 := if y.toNat / 2 ^ r % 2 = l then y else y ^^^ UInt8.ofNat (2 ^ r)
theorem fbB_tab : ∀ x : Fin 256, ∀ r : Fin 8, ∀ l : Fin 2, fbB (fbB (UInt8.ofNat x.val) r.val l.val) r.val l.val = fbB (UInt8.ofNat x.val) r.val l.val := by decide +kernel
theorem fbB_again (y : UInt8) {r l : Nat} (hr : r < 8) (hl : l < 2) : fbB (fbB y r l) r l = fbB y r l := by
  have h := fbB_tab ⟨y.toNat, y.toNat_lt⟩ ⟨r, hr⟩ ⟨l, hl⟩
  rw [UInt8.ofNat_toNat] at h
  exact h
section
variable {k p0 p1 p2 p3 c b v mode q0 q1 q2 q3 : Int} {xs : List UInt8}
theorem force_get (lx : xs.length = 72) (b v : Int) {i : Nat} (hi : i < 72) : (forceI xs b v).getD i 0 = if 0 ≤ b ∧ b < 576 ∧ i = b.toNat / 8 then fbB (xs.getD i 0) (b.toNat % 8) (lowI v) else xs.getD i 0 := by
  by_cases hb : 0 ≤ b ∧ b < 576
  · obtain ⟨p, rfl⟩ := Int.eq_ofNat_of_zero_le hb.1
    have hp : p < 576 := by omega
    unfold forceI fbB
    rw [bitI_nat, Int.toNat_natCast]
    by_cases e : (xs.getD (p / 8) 0).toNat / 2 ^ (p % 8) % 2 = lowI v
    · rw [if_pos e]
      by_cases hi2 : i = p / 8
      · rw [if_pos ⟨hb.1, hb.2, hi2⟩, hi2, if_pos e]
      · rw [if_neg fun h => hi2 h.2.2]
    · rw [if_neg e, flip_get lx hp]
      by_cases hi2 : i = p / 8
      · rw [if_pos hi2, if_pos ⟨hb.1, hb.2, hi2⟩, hi2, if_neg e]
      · rw [if_neg hi2, if_neg fun h => hi2 h.2.2]
  · rw [force_out lx hb, if_neg fun h => hb ⟨h.1, h.2.1⟩]
theorem chipB_getI (lx : xs.length = 72) (mode c : Int) (u : UInt8) {i : Nat} (hi : i < 72) : (chipB mode xs c u).getD i 0 = if (mode = 1 ∨ mode = 2) ∧ ((i % chN mode : Nat) : Int) = c then u else xs.getD i 0 := by
  by_cases hm : mode = 1 ∨ mode = 2
  · have hn : 0 < chN mode := by unfold chN; rcases hm with rfl | rfl <;> decide
    have hlt := Nat.mod_lt i hn
    by_cases hc : 0 ≤ c ∧ c < chN mode
    · obtain ⟨d, rfl⟩ := Int.eq_ofNat_of_zero_le hc.1
      rw [chipB_get hm lx (by omega) u hi]
      by_cases e : i % chN mode = d
      · rw [if_pos e, if_pos ⟨hm, by omega⟩]
      · rw [if_neg e, if_neg fun h => e (by omega)]
    · rw [chipB_out hc, if_neg fun h => hc (by omega)]
  · have hz : chN mode = 0 := by unfold chN; rw [if_neg fun h => hm (.inl h), if_neg fun h => hm (.inr h)]
    rw [chipB_out (by rw [hz]; omega), if_neg fun h => hm h.1]
/-- What a fault makes of one byte. -/
def faB (k p0 p1 p2 p3 c b v mode q0 q1 q2 q3 : Int) (i : Nat) (y : UInt8) : UInt8 :=
  bif (!(flasts k p0 p1 p2 p3 c b v)) || (!(flies k p0 p1 p2 p3 c b v q0 q1 q2 q3)) then y
  else bif k == 2 then (if 0 ≤ b ∧ b < 576 ∧ i = b.toNat / 8 then fbB y (b.toNat % 8) (lowI v) else y) else (if (mode = 1 ∨ mode = 2) ∧ ((i % chN mode : Nat) : Int) = c then u8I v else y)
theorem fa_get (lx : xs.length = 72) {i : Nat} (hi : i < 72) : (fapply k p0 p1 p2 p3 c b v mode q0 q1 q2 q3 xs).getD i 0 = faB k p0 p1 p2 p3 c b v mode q0 q1 q2 q3 i (xs.getD i 0) := by
  unfold fapply faB
  cases (!(flasts k p0 p1 p2 p3 c b v)) || (!(flies k p0 p1 p2 p3 c b v q0 q1 q2 q3))
  · rw [cond_false, cond_false]
    cases k == 2
    · rw [cond_false, cond_false]; exact chipB_getI lx mode c (u8I v) hi
    · rw [cond_true, cond_true]; exact force_get lx b v hi
  · rfl
theorem fap_ln (lx : xs.length = 72) : (fapply k p0 p1 p2 p3 c b v mode q0 q1 q2 q3 xs).length = 72 := by
  unfold fapply
  cases (!(flasts k p0 p1 p2 p3 c b v)) || (!(flies k p0 p1 p2 p3 c b v q0 q1 q2 q3))
  · rw [cond_false]
    cases k == 2
    · rw [cond_false]; exact chipB_len lx
    · rw [cond_true, forceI_len]; exact lx
  · exact lx
theorem faB_again (i : Nat) (y : UInt8) : faB k p0 p1 p2 p3 c b v mode q0 q1 q2 q3 i (faB k p0 p1 p2 p3 c b v mode q0 q1 q2 q3 i y) = faB k p0 p1 p2 p3 c b v mode q0 q1 q2 q3 i y := by
  unfold faB
  cases (!(flasts k p0 p1 p2 p3 c b v)) || (!(flies k p0 p1 p2 p3 c b v q0 q1 q2 q3))
  · simp only [cond_false]
    cases k == 2
    · simp only [cond_false]
      by_cases h : (mode = 1 ∨ mode = 2) ∧ ((i % chN mode : Nat) : Int) = c
      · simp only [if_pos h]
      · simp only [if_neg h]
    · simp only [cond_true]
      by_cases h : 0 ≤ b ∧ b < 576 ∧ i = b.toNat / 8
      · simp only [if_pos h]; exact fbB_again y (by omega) (lowI_lt v)
      · simp only [if_neg h]
  · rfl
theorem fa_again (lx : xs.length = 72) : fapply k p0 p1 p2 p3 c b v mode q0 q1 q2 q3 (fapply k p0 p1 p2 p3 c b v mode q0 q1 q2 q3 xs) = fapply k p0 p1 p2 p3 c b v mode q0 q1 q2 q3 xs :=
  eq72 (fap_ln (fap_ln lx)) (fap_ln lx) fun i hi => by rw [fa_get (fap_ln lx) hi, fa_get lx hi, faB_again]
/-- Where a fault does something, its chip is the one that it covers. -/
theorem faB_at (hm : mode = 1 ∨ mode = 2) (i : Nat) (y : UInt8) (h : faB k p0 p1 p2 p3 c b v mode q0 q1 q2 q3 i y ≠ y) : ((i % chN mode : Nat) : Int) = fcovers k p0 p1 p2 p3 c b v mode := by
  have hn : 0 < chN mode := by unfold chN; rcases hm with rfl | rfl <;> decide
  have hlt := Nat.mod_lt i hn
  unfold faB at h
  cases h1 : (!(flasts k p0 p1 p2 p3 c b v)) || (!(flies k p0 p1 p2 p3 c b v q0 q1 q2 q3)) <;> rw [h1] at h
  · rw [cond_false] at h
    simp only [Bool.or_eq_false_iff, Bool.not_eq_false'] at h1
    have hl := h1.1
    unfold flasts at hl
    simp only [Bool.and_eq_true, decide_eq_true_eq] at hl
    cases h2 : k == 2 <;> rw [h2] at h
    · rw [cond_false] at h
      have hk : k ≠ 2 := by simpa using h2
      by_cases h3 : (mode = 1 ∨ mode = 2) ∧ ((i % chN mode : Nat) : Int) = c
      · rw [fcov_chip ⟨by omega, hl.2⟩, if_pos ⟨by omega, by omega⟩]; exact h3.2
      · rw [if_neg h3] at h; exact absurd rfl h
    · rw [cond_true] at h
      have hk : k = 2 := by simpa using h2
      by_cases h3 : 0 ≤ b ∧ b < 576 ∧ i = b.toNat / 8
      · rw [fcov_bit hm (.inr hk) h3.1 h3.2.1, h3.2.2]
      · rw [if_neg h3] at h; exact absurd rfl h
  · exact absurd rfl h
end
theorem fa_swap {k p0 p1 p2 p3 c b v k' p0' p1' p2' p3' c' b' v' mode q0 q1 q2 q3 : Int} {xs : List UInt8} (lx : xs.length = 72) (h : fcovers k p0 p1 p2 p3 c b v mode ≠ fcovers k' p0' p1' p2' p3' c' b' v' mode) :
    fapply k p0 p1 p2 p3 c b v mode q0 q1 q2 q3 (fapply k' p0' p1' p2' p3' c' b' v' mode q0 q1 q2 q3 xs) = fapply k' p0' p1' p2' p3' c' b' v' mode q0 q1 q2 q3 (fapply k p0 p1 p2 p3 c b v mode q0 q1 q2 q3 xs) := by
  have hm : mode = 1 ∨ mode = 2 := by
    apply Classical.byContradiction
    intro hm
    exact h (by rw [fcov_none (fun e => hm (.inl e)) (fun e => hm (.inr e)), fcov_none (fun e => hm (.inl e)) (fun e => hm (.inr e))])
  refine eq72 (fap_ln (fap_ln lx)) (fap_ln (fap_ln lx)) fun i hi => ?_
  rw [fa_get (fap_ln lx) hi, fa_get lx hi, fa_get (fap_ln lx) hi, fa_get lx hi]
  by_cases e : ((i % chN mode : Nat) : Int) = fcovers k p0 p1 p2 p3 c b v mode
  · have h2 : ∀ y, faB k' p0' p1' p2' p3' c' b' v' mode q0 q1 q2 q3 i y = y := fun y => Classical.byContradiction fun hy => h (e.symm.trans (faB_at hm i y hy))
    rw [h2, h2]
  · have h2 : ∀ y, faB k p0 p1 p2 p3 c b v mode q0 q1 q2 q3 i y = y := fun y => Classical.byContradiction fun hy => e (faB_at hm i y hy)
    rw [h2, h2]
end Go.Proofs.Ytckhkagkpldoiaa
