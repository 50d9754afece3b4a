/- slices.Concat of two; shifts: walks. -/
import Derived.Test.YticbbkaelfbaiaaPolyI
namespace Go.Proofs.Yticbbkaelfbaiaa
open Go.RowKit Go.Shelf
set_option linter.unusedVariables false
attribute [local go_sem] Oper.semAt_some

theorem cat_val (ys : List UInt8) {A : Option Addr} {n c : Nat} (h : ys.length = n) : Value.slice A n c = Value.slice A ys.length c := by rw [h]
set_option maxRecDepth 100000 in
theorem concat_any (bs m2 : Nat) (hm2 : m2 = 2) (A1 A2 : Option Addr) (n1 c1 n2 c2 : Nat) (p q : List UInt8) (h1 : p.length = n1) (h2 : q.length = n2) (g1 : A1 = none → c1 = 0) (g2 : A2 = none → c2 = 0) (b1 : n1 ≤ 100000) (b2 : n2 ≤ 100000) (w : World)
    (hb : Blk w bs 22 #[.slice A1 n1 c1, .slice A2 n2 c2]) (hx : RdB w A1 p) (hy : RdB w A2 q) :
    Calls Try.prog 34 #[.slice (some ⟨bs, 0, none⟩) m2 m2] w fun e w' => ∃ v, e = .returned v ∧ Fr w.heap.size w' v (p ++ q) ∧ Below w.heap.size w w' := by
  have e0 := hb.cell 0
  have e1 := hb.cell 1
  have HBK := Lib.hid hb
  have HX := Lib.hid (And.intro hx hy)
  have HN := Lib.hid (And.intro h1 h2)
  have HG := Lib.hid (And.intro g1 g2)
  simp only [List.getElem?_toArray, List.getElem?_cons_zero, List.getElem?_cons_succ] at e0 e1
  obtain ⟨N, hN⟩ : ∃ N, n1 + n2 = N := ⟨_, rfl⟩
  have hwN : IntKind.i64.wrap ((n1 : Int) + (n2 : Int)) = (N : Int) := by rw [show (n1 : Int) + (n2 : Int) = (N : Int) from by omega]; exact IntWalk.i64_in _ (by omega)
  have i1 : (0 : Int) ≤ (n1 : Int) := by omega
  have hw0 : IntKind.i64.wrap (n1 : Int) = (n1 : Int) := IntWalk.i64_in _ (by omega)
  have i3 : (0 : Int) ≤ (N : Int) := by omega
  have j0 : (0 : Int) < (m2 : Int) := by omega
  have j1 : (1 : Int) < (m2 : Int) := by omega
  have j2 : (m2 : Int) ≤ 2 := by omega
  clear hx hy h1 h2 hb g1 g2 hm2
  refine (callsIn_wide (n := 6)).1 ?_
  refine callsIn_of_wp_marks Try.func34 rfl trivial ?_ rfl
  simp only [Try.ntmps34, List.size_toArray, List.length_cons, List.length_nil, Nat.reduceAdd, Nat.reduceSub, Array.replicate_succ, Array.replicate_zero, List.push_toArray, List.append_toArray, List.nil_append, List.cons_append]
  gi_wp2
  gi_loopw [3, 11] (fun s i wr => wr = w ∧ ((i = .int .i64 0 ∧ s = .int .i64 0) ∨ (i = .int .i64 1 ∧ s = .int .i64 (n1 : Int)) ∨ (i = .int .i64 2 ∧ s = .int .i64 (N : Int)))) (fun _ i _ => 2 - (intOf i).toNat)
  case atStart => exact ⟨rfl, .inl ⟨rfl, rfl⟩⟩
  case round =>
    obtain ⟨rfl, (⟨rfl, rfl⟩ | ⟨rfl, rfl⟩ | ⟨rfl, rfl⟩)⟩ := hrel
    · gi_wp2
      go_roundw
      case rel => exact ⟨trivial, .inr (.inl ⟨rfl, rfl⟩)⟩
      case measure => simp [intOf]
    · gi_wp2
      go_roundw
      case rel => exact ⟨trivial, .inr (.inr ⟨rfl, rfl⟩)⟩
      case measure => simp [intOf]
    · have HGR := Lib.hid (grow_any N (by omega) wr)
      clear e0 e1
      gi_wp2_with fail
      refine ⟨trivial, ?_⟩
      refine (callsIn_wide.2 HGR.out).mono ?_
      rintro e W1 ⟨v, rfl, hv, hbw⟩
      have HV := Lib.hid (And.intro hv hbw)
      clear hv hbw HGR
      gi_wp2
      gi_loopw [6, 27] (fun v i W => Below wr.heap.size wr W ∧ ((i = .int .i64 0 ∧ Fr wr.heap.size W v []) ∨ (i = .int .i64 1 ∧ Fr wr.heap.size W v p) ∨ (i = .int .i64 2 ∧ Fr wr.heap.size W v (p ++ q)))) (fun _ i _ => 2 - (intOf i).toNat)
      case atStart => exact ⟨HV.out.2, .inl ⟨rfl, HV.out.1⟩⟩
      case round =>
        rename_i v2 i2 W
        obtain ⟨hbw, (⟨rfl, hv⟩ | ⟨rfl, hv⟩ | ⟨rfl, hv⟩)⟩ := hrel
        · have e0 := (HBK.out.below hbw (Blk.lt HBK.out)).cell 0
          simp only [List.getElem?_toArray, List.getElem?_cons_zero] at e0
          obtain ⟨v', w', hr, hv', hbw'⟩ := run_app (ys := p) hv (HX.out.1.below hbw) HG.out.1 hbw.size (by rw [HN.out.1]; simp; omega)
          rw [HN.out.1] at hr
          have HR := Lib.hid hr
          have HV' := Lib.hid (And.intro (hbw.trans hbw') hv')
          clear hr hv' hbw' hv hbw
          gi_wp2_with (refine op_append 22 (.tmp 31) (.tmp 32) rfl rfl _ _ v' rfl rfl HR.out ?_)
          go_roundw
          case rel => exact ⟨HV'.out.1, .inr (.inl ⟨rfl, HV'.out.2⟩)⟩
          case measure => simp [intOf]
        · have e0 := (HBK.out.below hbw (Blk.lt HBK.out)).cell 1
          simp only [List.getElem?_toArray, List.getElem?_cons_zero, List.getElem?_cons_succ] at e0
          obtain ⟨v', w', hr, hv', hbw'⟩ := run_app (ys := q) hv (HX.out.2.below hbw) HG.out.2 hbw.size (by rw [HN.out.1, HN.out.2]; omega)
          rw [HN.out.2] at hr
          have HR := Lib.hid hr
          have HV' := Lib.hid (And.intro (hbw.trans hbw') hv')
          clear hr hv' hbw' hv hbw
          gi_wp2_with (refine op_append 22 (.tmp 31) (.tmp 32) rfl rfl _ _ v' rfl rfl HR.out ?_)
          go_roundw
          case rel => exact ⟨HV'.out.1, .inr (.inr ⟨rfl, HV'.out.2⟩)⟩
          case measure => simp [intOf]
        · have HV' := Lib.hid (And.intro hbw hv)
          clear hbw hv
          gi_wp2
          exact ⟨_, by simp [results, Try.results34, go_sem], _, rfl, HV'.out.2, HV'.out.1⟩

theorem build2S (v u : Value) (hv : v.cells = #[v]) (hu : u.cells = #[u]) (w : World) : (Instr.buildSlice 64 2 #[(0, v), (1, u)]).run Try.prog w = .ok (.slice (some ⟨w.heap.size, 0, none⟩) 2 2) (w.alloc (.cells #[v, u] 22)) := by
  have infoS : (Try.prog.info? 22).map (fun i => (i.zero, i.size)) = some (some (.slice none 0 0), 1) := by kernel_rfl
  cases hi : Try.prog.info? 22 with
  | none => rw [hi] at infoS; cases infoS
  | some i0 =>
    rw [hi] at infoS
    simp only [Option.map_some, Option.some.injEq, Prod.mk.injEq] at infoS
    obtain ⟨hz0, hz1⟩ := infoS
    refine run_buildSlice w 64 22 2 _ _ i0 (.slice none 0 0) Try.underlying64 hi hz0 (by rw [hz1]; omega) (by rw [hz1]; omega) ?_
    rw [hz1]
    exact Great.fill_flat [v, u] _ (fun x hx => by
      simp only [List.mem_cons, List.not_mem_nil, or_false] at hx
      rcases hx with rfl | rfl
      · exact hv
      · exact hu) (by simp)
theorem shift_any (A : Option Addr) (n c : Nat) (p : List UInt8) (k : Int) (hn : p.length = n) (hA : A = none → c = 0) (bn : n ≤ 50000) (bk : k ≤ 50000) (bk2 : -9223372036854775808 ≤ k) (w : World) (hx : RdB w A p) :
    Calls Try.prog 25 #[.slice A n c, .int .i64 k] w fun e w' => ∃ v, e = .returned v ∧ Fr w.heap.size w' v (shiftL p k.toNat) ∧ Below w.heap.size w w' := by
  have HX := Lib.hid hx
  have HN := Lib.hid hn
  have HA := Lib.hid hA
  obtain ⟨m, hm⟩ : ∃ m, k.toNat = m := ⟨_, rfl⟩
  have hmk : max k 0 = (m : Int) := by omega
  have hmk2 : (if k < 0 then 0 else k) = (m : Int) := by split <;> omega
  have hmk3 : (if 0 < k then k else 0) = (m : Int) := by split <;> omega
  rw [hm]
  obtain ⟨b0, hb0⟩ : ∃ b0, w.heap.size = b0 := ⟨_, rfl⟩
  have HB0 := Lib.hid hb0
  have OW := Lib.hid (Own.start b0 w)
  have OZ := Lib.hid (And.intro hb0 (Nat.le_refl b0))
  clear hb0 hx hn hA
  refine (callsIn_wide (n := 6)).1 ?_
  refine callsIn_of_wp_marks Try.func25 rfl trivial ?_ rfl
  simp only [Try.ntmps25, List.size_toArray, List.length_cons, List.length_nil, Nat.reduceAdd, Nat.reduceSub, Array.replicate_succ, Array.replicate_zero, List.push_toArray, List.append_toArray, List.nil_append, List.cons_append]
  gi_wp2_with (first
    | (refine own_make 22 5 (.tmp 6) rfl rfl m rfl _ (makeRow m (by omega)) OW OZ ?_; clear OW OZ; intro W OW OZ))
  refine ⟨trivial, ?_⟩
  have hb1 := OW.out.done HB0
  have hz : RdB W (some ⟨b0, 0, none⟩) (List.replicate m 0) := RdB.row (rest := []) (OW.out.blk (k := 0) rfl)
  have hx := HX.out.below hb1
  obtain ⟨W2, hW2⟩ : ∃ W2, W.alloc (.cells #[.slice (some ⟨b0, 0, none⟩) m m, .slice A n c] 22) = W2 := ⟨_, rfl⟩
  have hb2 : Below W.heap.size W W2 := by rw [← hW2]; exact (Below.refl _ W).alloc (Nat.le_refl _) _
  have hblk : Blk W2 W.heap.size 22 #[.slice (some ⟨b0, 0, none⟩) m m, .slice A n c] := by rw [← hW2]; exact Blk.new W _ _
  rw [hW2]
  refine (callsIn_wide.2 (concat_any W.heap.size 2 rfl (some ⟨b0, 0, none⟩) A m m n c (List.replicate m 0) p (by simp) HN.out (fun h => by cases h) HA.out (by omega) (by omega) W2 hblk (hz.below hb2) (hx.below hb2))).mono ?_
  rintro e W3 ⟨v, rfl, hv, hb3⟩
  have HB3 := Lib.hid ((hb1.trans (hb2.mono hb1.size)).trans (hb3.mono (Nat.le_trans hb1.size hb2.size)))
  obtain ⟨A3, c3, rfl, hc3, _, hr3⟩ := hv.open
  have hl3 : (List.replicate m (0 : UInt8) ++ p).length = m + n := by simp [HN.out]
  have HT := Lib.hid (trim_any A3 (List.replicate m 0 ++ p).length c3 (List.replicate m 0 ++ p) rfl hc3 (by rw [hl3]; omega) W3 hr3)
  rw [show trimL (List.replicate m 0 ++ p) = shiftL p m from rfl] at HT
  obtain ⟨n3, hn3⟩ : ∃ n3, (List.replicate m (0 : UInt8) ++ p).length = n3 := ⟨_, rfl⟩
  rw [hn3] at HT ⊢
  clear hv hb3 hb2 hb1 hz hx hblk hW2 hl3 hn3 hc3 hr3
  gi_wp2_with fail
  refine ⟨trivial, ?_⟩
  refine (callsIn_wide.2 HT.out).mono ?_
  rintro e W4 ⟨v, rfl, h1, h2⟩
  gi_wp2
  exact ⟨v, by simp [results, Try.results25, go_sem], v, rfl, h1.lower HB3.out.size, HB3.out.trans (h2.mono HB3.out.size)⟩
end Go.Proofs.Yticbbkaelfbaiaa
