/- hsiao.New: one block with the code; a walk. -/
import Derived.Test.YtbhonojfglhbeaaHsW
import Derived.Test.YtbhonojfglhbeaaBitC
import Derived.Test.YtbhonojfglhbeaaRf3
namespace Go.Proofs.Ytbhonojfglhbeaa
open Go.RowKit Go.Shelf
attribute [local go_sem] Oper.semAt_some

/-- The block behind k rounds of the first loop. -/
def cellsH (k : Nat) : Array Value := codeCells (List.replicate 74 0, List.replicate k (-1) ++ List.replicate (256 - k) 0)
theorem cellsH_succ {k : Nat} (h : k < 256) : (cellsH k).setIfInBounds (74 + k) (.int .i64 (-1)) = cellsH (k + 1) := by
  unfold cellsH
  rw [codeCells_set2 (by rw [List.length_replicate])]
  obtain ⟨m, hm⟩ : ∃ m, 256 - k = m + 1 := ⟨256 - k - 1, by omega⟩
  have h2 : (List.replicate k (-1 : Int) ++ List.replicate (256 - k) 0).set k (-1) = List.replicate (k + 1) (-1) ++ List.replicate (256 - (k + 1)) 0 := by
    rw [List.set_append_right _ _ (by rw [List.length_replicate]; omega), List.length_replicate, Nat.sub_self, hm, show 256 - (k + 1) = m by omega, show List.replicate (m + 1) (0 : Int) = 0 :: List.replicate m 0 from rfl, List.set_cons_zero, List.replicate_succ' (n := k), List.append_assoc]
    rfl
  exact congrArg (fun l => codeCells (List.replicate 74 0, l)) h2
theorem cellsH_all : cellsH 256 = codeCells hst0 := by
  unfold cellsH hst0
  rw [Nat.sub_self, List.replicate_zero, List.append_nil]
theorem cellsH_get {k j : Nat} (h : j < 256) (hk : k ≤ 256) : ∃ v, (cellsH k)[74 + j]? = some v := by
  unfold cellsH
  exact ⟨_, codeCells_at (List.length_replicate ..) (by simp; omega) h⟩
/-- The number ahead of round i of the last loop. -/
def iv (i : Nat) : Nat := if i ≤ 8 then 56 + i else 64 + i
theorem zeroCode (w : World) : (zeroValue 51).run Try.prog w = .ok (.agg (cellsH 0)) w := by kernel_rfl
theorem boxCode (w : World) : (Instr.box 51 (.agg (cellsH 0))).run Try.prog w = .ok (.pointer (some ⟨w.heap.size, 0, none⟩)) (w.alloc (.cells (cellsH 0) 51)) := by kernel_rfl

set_option maxRecDepth 100000 in
set_option maxHeartbeats 2000000 in
theorem new_any (w : World) :
    Calls Try.prog 10 #[] w fun e w' => e = .returned (.pointer (some ⟨w.heap.size, 0, none⟩)) ∧ CodeAt w' w.heap.size ∧ Below w.heap.size w w' := by
  have hz := zeroCode
  have hb := boxCode
  refine (callsIn_wide (n := 6)).1 ?_
  refine callsIn_of_wp_marks Try.func10 rfl trivial ?_ rfl
  simp only [Try.ntmps10, List.size_toArray, List.length_nil, Nat.reduceSub, Array.replicate_succ, Array.replicate_zero, List.push_toArray, List.append_toArray, List.nil_append, List.cons_append]
  gi_wp2
  clear hz hb
  obtain ⟨b0, hb0⟩ : ∃ b0, w.heap.size = b0 := ⟨_, rfl⟩
  obtain ⟨W0, hW0⟩ : ∃ W0, (w.alloc (.cells (cellsH 0) 51)).alloc (.cells #[.pointer (some ⟨w.heap.size, 0, none⟩)] 23) = W0 := ⟨_, rfl⟩
  rw [hW0, hb0]
  have k0 : Blk W0 b0 51 (cellsH 0) := by rw [← hW0, ← hb0]; exact (Blk.new w _ _).alloc _
  have k1 : Blk W0 (b0 + 1) 23 #[.pointer (some ⟨b0, 0, none⟩)] := by
    rw [← hW0, ← hb0]; have h := Blk.new (w.alloc (.cells (cellsH 0) 51)) 23 #[.pointer (some ⟨w.heap.size, 0, none⟩)]
    rw [World.size_alloc] at h; exact h
  have kb : Below b0 w W0 := by rw [← hW0, ← hb0]; exact ((Below.refl _ w).alloc (Nat.le_refl _) _).alloc (by simp) _
  have kz : b0 + 2 ≤ W0.heap.size := by rw [← hW0, ← hb0]; simp
  have HB0 := Lib.hid hb0
  have K0 := Lib.hid k0
  have K1 := Lib.hid k1
  have KB := Lib.hid kb
  have KZ := Lib.hid kz
  clear hW0 hb0 k0 k1 kb kz
  gi_loopw [9] (fun i wr => ∃ k : Nat, k ≤ 256 ∧ i = .int .i64 k ∧ Blk wr b0 51 (cellsH k) ∧ Blk wr (b0 + 1) 23 #[.pointer (some ⟨b0, 0, none⟩)] ∧ Below b0 w wr ∧ b0 + 2 ≤ wr.heap.size) (fun i _ => 256 - (intOf i).toNat)
  case atStart => exact ⟨0, by omega, rfl, K0.out, K1.out, KB.out, KZ.out⟩
  case round =>
    obtain ⟨k, hk, rfl, h0, h1, h2, h3⟩ := hrel
    clear K0 K1 KB KZ
    have e1 := h1.cell 0
    simp only [List.getElem?_toArray, List.getElem?_cons_zero] at e1
    by_cases hlt : k < 256
    · obtain ⟨v, hv⟩ := cellsH_get hlt hk
      have e0 : wr.cell? ⟨b0, 74 + k, none⟩ = some v := by rw [h0.cell]; exact hv
      have f0 := h0.frozen (74 + k)
      have i1 : (k : Int) < 256 := by omega
      have HI := Lib.hid (And.intro h0 (And.intro h1 (And.intro h2 h3)))
      clear h0 h1 h2 h3 hv
      gi_wp2
      go_roundw
      case rel =>
        obtain ⟨h0, h1, h2, h3⟩ := HI.out
        refine ⟨k + 1, by omega, by go_num, ?_, h1.far (p := ⟨b0, 74 + k, none⟩) (by show b0 + 1 ≠ b0; omega) _, h2.setCell (p := ⟨b0, 74 + k, none⟩) (Nat.le_refl _) _, by simp [World.setCell]; exact h3⟩
        rw [← cellsH_succ hlt]; exact h0.set_ (74 + k) _
      case measure => simp [intOf]; omega
    · obtain rfl : k = 256 := by omega
      rw [show ((256 : Nat) : Int) = 256 from rfl]
      rw [cellsH_all] at h0
      have h0' : Blk wr b0 51 (codeCells (hA 0)) := h0
      obtain ⟨wo, hwo⟩ : ∃ wo : World, wo = wr := ⟨_, rfl⟩
      subst hwo
      have K0 := Lib.hid h0'
      have K1 := Lib.hid h1
      have KB := Lib.hid h2
      have KZ := Lib.hid h3
      clear h0 h0' h1 h2 h3 e1
      gi_wp2
      gi_loopw [18] (fun i wr => ∃ k : Nat, k ≤ 8 ∧ i = .int .i64 k ∧ Blk wr b0 51 (codeCells (hA k)) ∧ Blk wr (b0 + 1) 23 #[.pointer (some ⟨b0, 0, none⟩)] ∧ Below b0 w wr ∧ b0 + 2 ≤ wr.heap.size) (fun i _ => 8 - (intOf i).toNat)
      case atStart => exact ⟨0, by omega, rfl, K0.out, K1.out, KB.out, KZ.out⟩
      case round =>
        obtain ⟨k, hk, rfl, h0, h1, h2, h3⟩ := hrel
        clear K0 K1 KB KZ
        have e1 := h1.cell 0
        simp only [List.getElem?_toArray, List.getElem?_cons_zero] at e1
        by_cases hlt : k < 8
        · have hpw : 2 ^ k < 256 := (Nat.pow_lt_pow_right (by decide) hlt : 2 ^ k < 2 ^ 8)
          have hp2 : IntKind.u8.wrap ((2 : Int) ^ k) = ((2 ^ k : Nat) : Int) := by
            rw [show ((2 : Int) ^ k) = ((2 ^ k : Nat) : Int) by simp]; exact (fun P h => IntWalk.u8_in _ (by omega) : ∀ P : Nat, P < 256 → IntKind.u8.wrap (P : Int) = P) _ hpw
          have PA := put_any b0 (hA k) (hA_len k).1 (hA_len k).2 (64 + k) (2 ^ k) (by omega) hpw wr h0
          push_cast at PA
          have HPA := Lib.hid PA
          have HI := Lib.hid (And.intro h1 (And.intro h2 h3))
          clear h0 h1 h2 h3 PA
          gi_wp2_with fail
          refine ⟨trivial, ?_⟩
          refine (callsIn_wide.2 HPA.out).mono ?_
          rintro e W ⟨rfl, hb, ht⟩
          have HBT := Lib.hid (And.intro hb ht)
          clear hb ht hp2
          gi_wp2
          go_roundw
          case rel =>
            obtain ⟨h1, h2, h3⟩ := HI.out
            obtain ⟨hb, ht⟩ := HBT.out
            exact ⟨k + 1, by omega, by go_num, hb, ht.heap (by omega) h1, h2.trans (ht.below (by omega) (fun b hb => by omega)), Nat.le_trans h3 ht.size⟩
          case measure => simp [intOf]; omega
        · obtain rfl : k = 8 := by omega
          rw [show ((8 : Nat) : Int) = 8 from rfl]
          obtain ⟨wo, hwo⟩ : ∃ wo : World, wo = wr := ⟨_, rfl⟩
          subst hwo
          obtain ⟨bi, hbi⟩ : ∃ bi, wo.heap.size = bi := ⟨_, rfl⟩
          have d1 : ∀ o, (wo.alloc o).cell? ⟨b0 + 1, 0, none⟩ = some (.pointer (some ⟨b0, 0, none⟩)) := fun o => (h1.alloc o).cell 0
          have K0 := Lib.hid h0
          have K1 := Lib.hid h1
          have KB := Lib.hid h2
          have KZ := Lib.hid h3
          clear h0 h1 h2 h3 e1
          gi_wp2_with fail
          refine ⟨trivial, ?_⟩
          refine (callsIn_wide.2 (choose8_any _ _ _)).mono ?_
          rintro e w3 ⟨rfl, hw3⟩
          simp only [World.size_alloc] at hw3 ⊢
          have V0 : Blk w3 b0 51 (codeCells (hB 0)) := by rw [hw3]; exact ((K0.out.alloc _).alloc _).alloc _
          have V1 : Blk w3 (b0 + 1) 23 #[.pointer (some ⟨b0, 0, none⟩)] := by rw [hw3]; exact ((K1.out.alloc _).alloc _).alloc _
          have V2 : Blk w3 bi 3 #[.int .i64 0] := by rw [hw3, ← hbi]; exact ((Blk.new wo _ _).alloc _).alloc _
          have V3 : Blk w3 (bi + 1) 3 #[.int .i64 8] := by
            rw [hw3, ← hbi]; have h := (Blk.new (wo.alloc (.cells #[.int .i64 0] 3)) 3 #[.int .i64 8]).alloc (.cells #[.int .i64 3] 3)
            rw [World.size_alloc] at h; exact h
          have V4 : Blk w3 (bi + 2) 3 #[.int .i64 3] := by
            rw [hw3, ← hbi]; have h := (Blk.new ((wo.alloc (.cells #[.int .i64 0] 3)).alloc (.cells #[.int .i64 8] 3)) 3 #[.int .i64 3])
            rw [World.size_alloc, World.size_alloc] at h; exact h
          have VB : Below b0 w w3 := by
            rw [hw3]; have := KB.out.size; have := HB0.out; exact ((KB.out.alloc (by omega) _).alloc (by simp; omega) _).alloc (by simp; omega) _
          have VZ : w3.heap.size = bi + 3 := by rw [hw3, ← hbi]; simp
          have lb : b0 + 2 ≤ bi := by rw [← hbi]; exact KZ.out
          rw [hbi]
          have W0 := Lib.hid V0
          have W1 := Lib.hid V1
          have W2 := Lib.hid V2
          have W3 := Lib.hid V3
          have W4 := Lib.hid V4
          have WB := Lib.hid VB
          have WZ := Lib.hid VZ
          clear K0 K1 KB KZ V0 V1 V2 V3 V4 VB VZ d1 hw3 hbi
          gi_wp2
          refine iter_law (n := 6) rfl (by omega) (gf := 29) (lb := #[.pointer (some ⟨bi + 2, 0, none⟩), .pointer (some ⟨bi + 1, 0, none⟩)]) rfl trivial (enters_of Try.func29 (by kernel_rfl) rfl)
            (choose8_iter (6 - 1) (by omega) (bi + 1) (bi + 2) 8 3 (by omega) (by omega)) ?hSt (fun _ h => h.elim) ?hKl (fun _ => rfl)
            (fun i U => Blk U b0 51 (codeCells (hB i)) ∧ Blk U (b0 + 1) 23 #[.pointer (some ⟨b0, 0, none⟩)] ∧ Blk U bi 3 #[.int .i64 (i : Int)] ∧ Below b0 w U ∧ bi + 3 ≤ U.heap.size)
            (fun _ _ _ => False)
            ?hI (fun _ _ _ _ h _ => h.elim) ?h0 ?act1 ?assign ?body ?done (fun _ _ _ _ _ _ h _ => h.elim)
          case hSt =>
            intro U hU
            have wz := WZ.out
            exact ⟨by rw [World.cell?_of_block (a := ⟨bi + 1, 0, none⟩) (hU (bi + 1) (by omega))]; exact W3.out.cell 0, by rw [World.cell?_of_block (a := ⟨bi + 2, 0, none⟩) (hU (bi + 2) (by omega))]; exact W4.out.cell 0⟩
          case hKl => have wz := WZ.out; rintro b (rfl | rfl) <;> omega
          case hI =>
            rintro i A B ⟨h0, h1, h2, h3, h4⟩ t
            have wz := WZ.out
            have k := fun {b : Nat} {cs : Array Value} {ty : TypeId} (h : Blk A b ty cs) => (t.heap (other_cells h (fun e => e)) h : Blk B b ty cs)
            exact ⟨k h0, k h1, k h2, h3.trans (t.below (by have := h3.size; have := HB0.out; omega) (fun b hb => by rcases hb with hb | ⟨hb, _⟩; exact hb.elim; omega)), Nat.le_trans h4 t.size⟩
          case h0 => exact ⟨W0.out, W1.out, W2.out, WB.out, by have := WZ.out; omega⟩
          case assign =>
            intro l x W K hK
            gi_wp2
            exact hK
          case body =>
            rintro l i x U hx ⟨h0, h1, h2, h3, h4⟩
            have hil : i < 56 := by have := (List.getElem?_eq_some_iff.1 hx).1; rw [choose83_len] at this; exact this
            have hxl : x < 256 := by
              have hm := chTo_mem (2 ^ 8) 0 3 x (List.mem_of_getElem? hx)
              have : (2 : Nat) ^ 8 = 256 := rfl
              omega
            have hg : (choose 8 3).getD i 0 = x := by rw [List.getD_eq_getElem?_getD, hx]; rfl
            have PA := put_any b0 (hB i) (hB_len i).1 (hB_len i).2 i x (by omega) hxl U h0
            have hst : hput (hB i) i x = hB (i + 1) := by rw [hB, hg]
            rw [hst] at PA
            have e1 := h1.cell 0
            have e2 := h2.cell 0
            have f2 := h2.frozen 0
            simp only [List.getElem?_toArray, List.getElem?_cons_zero] at e1 e2
            have HPA := Lib.hid PA
            have HI := Lib.hid (And.intro h1 (And.intro h2 (And.intro h3 h4)))
            clear h0 h1 h2 h3 h4 PA hst hg hx
            gi_wp2_with fail
            refine ⟨trivial, ?_⟩
            refine (CallsIn.inRound l (callsIn_wide.2 HPA.out)).mono ?_
            rintro e W ⟨rfl, hb, ht⟩
            obtain ⟨h1, h2, h3, h4⟩ := HI.out
            have m2 : Blk W bi 3 #[.int .i64 (i : Int)] := ht.heap (by omega) h2
            have e2 := m2.cell 0
            have f2 := m2.frozen 0
            simp only [List.getElem?_toArray, List.getElem?_cons_zero] at e2
            have HBT := Lib.hid (And.intro hb (And.intro ht m2))
            clear hb ht m2 h1 h2 h3 h4
            gi_wp2
            obtain ⟨h1, h2, h3, h4⟩ := HI.out
            obtain ⟨hb, ht, m2⟩ := HBT.out
            have hlt : b0 < U.heap.size := by omega
            refine ⟨(KeepsFrom.mk ht.size ?_).trans ((KeepsOthers.setCell _ _ _).from _), ⟨by simp [World.setCell]; exact ht.size, ?_⟩, hb.far (p := ⟨bi, 0, none⟩) (by show b0 ≠ bi; omega) _, Blk.far (ht.heap (by omega) h1 : Blk W (b0 + 1) _ _) (p := ⟨bi, 0, none⟩) (by show b0 + 1 ≠ bi; omega) _, m2.set_ 0 _, (h3.trans (ht.below (by have := h3.size; have := HB0.out; omega) (fun b hb => by omega))).setCell (p := ⟨bi, 0, none⟩) (by show b0 ≤ bi; omega) _, by simp [World.setCell]; exact Nat.le_trans h4 ht.size⟩
            · intro k o hB ho hc
              exact ht.heap (by have := WZ.out; omega) ho
            · rintro b hb'
              have hbb : b = bi + 1 ∨ b = bi + 2 := hb'
              exact (Below.heap_setCell _ ⟨bi, 0, none⟩ _ b (by show b ≠ bi; omega)).trans (ht.same b (by omega) (by omega))
          case done =>
            rintro D U hD ⟨h0, h1, h2, h3, h4⟩ hDD
            rw [choose83_len] at h0 h2
            rw [show ((56 : Nat) : Int) = 56 from rfl] at h2
            have wz := WZ.out
            have hD1 : D < U.heap.size := (Array.getElem?_eq_some_iff.1 hDD).1
            obtain ⟨bj, hbj⟩ : ∃ bj, U.heap.size = bj := ⟨_, rfl⟩
            have h0' : Blk U b0 51 (codeCells (hC 0)) := h0
            have K0 := Lib.hid h0'
            have K1 := Lib.hid h1
            have K2 := Lib.hid h2
            have KB := Lib.hid h3
            have KZ := Lib.hid h4
            have KD := Lib.hid hDD
            have HD := Lib.hid hD
            have HD1 := Lib.hid hD1
            clear h0 h0' h1 h2 h3 h4 hDD hD hD1 W0 W1 W2 W3 W4 WB wz
            gi_wp2_with fail
            refine ⟨trivial, ?_⟩
            refine (callsIn_wide.2 (choose8_any _ _ _)).mono ?_
            rintro e w4 ⟨rfl, hw4⟩
            have V0 : Blk w4 b0 51 (codeCells (hC 0)) := by rw [hw4]; exact (K0.out.alloc _).alloc _
            have V1 : Blk w4 (b0 + 1) 23 #[.pointer (some ⟨b0, 0, none⟩)] := by rw [hw4]; exact (K1.out.alloc _).alloc _
            have V2 : Blk w4 bi 3 #[.int .i64 56] := by rw [hw4]; exact (K2.out.alloc _).alloc _
            have V3 : Blk w4 bj 3 #[.int .i64 8] := by rw [hw4, ← hbj]; exact (Blk.new U _ _).alloc _
            have V4 : Blk w4 (bj + 1) 3 #[.int .i64 5] := by
              rw [hw4, ← hbj]; have h := Blk.new (U.alloc (.cells #[.int .i64 8] 3)) 3 #[.int .i64 5]
              rw [World.size_alloc] at h; exact h
            have VB : Below b0 w w4 := by
              rw [hw4]; have := KB.out.size; have := HB0.out; exact (KB.out.alloc (by omega) _).alloc (by simp; omega) _
            have VD : w4.heap[D]? = some (.deferred (some [])) := by
              rw [hw4]; exact (Below.heap_alloc _ _ _ (by simp; have := HD1.out; omega)).trans ((Below.heap_alloc _ _ _ HD1.out).trans KD.out)
            have VZ : w4.heap.size = bj + 2 := by rw [hw4, ← hbj]; simp
            have lj : bi + 3 ≤ bj := by rw [← hbj]; exact KZ.out
            have lD : D < bj := by rw [← hbj]; exact HD1.out
            rw [hbj]
            have W0 := Lib.hid V0
            have W1 := Lib.hid V1
            have W2 := Lib.hid V2
            have W3 := Lib.hid V3
            have W4 := Lib.hid V4
            have WB := Lib.hid VB
            have WD := Lib.hid VD
            have XZ := Lib.hid VZ
            clear K0 K1 K2 KB KZ KD V0 V1 V2 V3 V4 VB VD VZ hw4 hbj
            gi_wp2
            refine iter_law (n := 6) rfl (by omega) (gf := 29) (lb := #[.pointer (some ⟨bj + 1, 0, none⟩), .pointer (some ⟨bj, 0, none⟩)]) rfl trivial (enters_of Try.func29 (by kernel_rfl) rfl)
              (choose8_iter (6 - 1) (by omega) bj (bj + 1) 8 5 (by omega) (by omega)) ?hSt2 (fun _ h => h.elim) ?hKl2 (fun _ => rfl)
              (fun i U => i ≤ 10 ∧ Blk U b0 51 (codeCells (hC i)) ∧ Blk U (b0 + 1) 23 #[.pointer (some ⟨b0, 0, none⟩)] ∧ Blk U bi 3 #[.int .i64 (iv i : Nat)] ∧ Below b0 w U ∧ bj + 2 ≤ U.heap.size ∧ U.heap[D]? = some (.deferred (some [])))
              (fun c _ U => c = .exit 6 ∧ Blk U b0 51 (codeCells (hC 10)) ∧ Blk U (b0 + 1) 23 #[.pointer (some ⟨b0, 0, none⟩)] ∧ Below b0 w U ∧ bj + 2 ≤ U.heap.size ∧ U.heap[D]? = some (.deferred (some [])))
              ?hI2 ?hIx2 ?h02 ?act2 ?assign2 ?body2 ?done2 ?stop2
            case hSt2 =>
              intro U hU
              have wz := XZ.out
              exact ⟨by rw [World.cell?_of_block (a := ⟨bj, 0, none⟩) (hU bj (by omega))]; exact W3.out.cell 0, by rw [World.cell?_of_block (a := ⟨bj + 1, 0, none⟩) (hU (bj + 1) (by omega))]; exact W4.out.cell 0⟩
            case hKl2 => have wz := XZ.out; rintro b (rfl | rfl) <;> omega
            case hI2 =>
              rintro i A B ⟨hi, h0, h1, h2, h3, h4, h5⟩ t
              have wz := XZ.out
              have k := fun {b : Nat} {cs : Array Value} {ty : TypeId} (h : Blk A b ty cs) => (t.heap (other_cells h (fun e => e)) h : Blk B b ty cs)
              exact ⟨hi, k h0, k h1, k h2, h3.trans (t.below (by have := h3.size; have := HB0.out; omega) (fun b hb => by rcases hb with hb | ⟨hb, _⟩; exact hb.elim; omega)), Nat.le_trans h4 t.size, t.heap (other_low (by omega) (fun e => e)) h5⟩
            case hIx2 =>
              rintro c i A B ⟨hc, h0, h1, h3, h4, h5⟩ t
              have wz := XZ.out
              have k := fun {b : Nat} {cs : Array Value} {ty : TypeId} (h : Blk A b ty cs) => (t.heap (other_cells h (fun e => e)) h : Blk B b ty cs)
              exact ⟨hc, k h0, k h1, h3.trans (t.below (by have := h3.size; have := HB0.out; omega) (fun b hb => by rcases hb with hb | ⟨hb, _⟩; exact hb.elim; omega)), Nat.le_trans h4 t.size, t.heap (other_low (by omega) (fun e => e)) h5⟩
            case h02 => exact ⟨by omega, W0.out, W1.out, W2.out, WB.out, by have := XZ.out; omega, WD.out⟩
            case assign2 =>
              intro l x W K hK
              gi_wp2
              exact hK
            case body2 =>
              rintro l i x U hx ⟨hi, h0, h1, h2, h3, h4, h5⟩
              have e1 := h1.cell 0
              have e2 := h2.cell 0
              have f2 := h2.frozen 0
              simp only [List.getElem?_toArray, List.getElem?_cons_zero] at e1 e2
              by_cases h10 : i = 10
              · subst h10
                have hiv : (iv 10 : Nat) = 74 := rfl
                rw [hiv] at e2 h2
                have HI := Lib.hid (And.intro h0 (And.intro h1 (And.intro h3 (And.intro h4 h5))))
                clear h0 h1 h2 h3 h4 h5 hx hiv
                gi_wp2
                exact ⟨KeepsFrom.refl _ _, rfl, HI.out⟩
              · have hi9 : i < 10 := by omega
                have hxl : x < 256 := by
                  have hm := chTo_mem (2 ^ 8) 0 5 x (List.mem_of_getElem? hx)
                  have : (2 : Nat) ^ 8 = 256 := rfl
                  omega
                have hg : (choose 8 5).getD i 0 = x := by rw [List.getD_eq_getElem?_getD, hx]; rfl
                have hst : hput (hC i) (place5 i) x = hC (i + 1) := by rw [hC, hg]
                by_cases h8 : i = 8
                · subst h8
                  have hiv : (iv 8 : Nat) = 64 := rfl
                  rw [hiv] at e2 h2
                  rw [show ((64 : Nat) : Int) = 64 from rfl] at e2
                  have hiv2 : iv (8 + 1) = 72 + 1 := rfl
                  have hpl : place5 8 = 72 := rfl
                  rw [hpl] at hst
                  obtain ⟨U8, hU8⟩ : ∃ U8, U.setCell ⟨bi, 0, none⟩ (.int .i64 72) = U8 := ⟨_, rfl⟩
                  have g0 : Blk U8 b0 51 (codeCells (hC 8)) := by rw [← hU8]; exact h0.far (p := ⟨bi, 0, none⟩) (by show b0 ≠ bi; have := WZ.out; omega) _
                  have g1 : Blk U8 (b0 + 1) 23 #[.pointer (some ⟨b0, 0, none⟩)] := by rw [← hU8]; exact h1.far (p := ⟨bi, 0, none⟩) (by show b0 + 1 ≠ bi; have := WZ.out; omega) _
                  have g2 : Blk U8 bi 3 #[.int .i64 ((72 : Nat) : Int)] := by rw [← hU8]; exact h2.set_ 0 _
                  have g3 : Below b0 w U8 := by rw [← hU8]; exact h3.setCell (p := ⟨bi, 0, none⟩) (by show b0 ≤ bi; have := WZ.out; omega) _
                  have g4 : bj + 2 ≤ U8.heap.size := by rw [← hU8]; simp [World.setCell]; exact h4
                  have g5 : U8.heap[D]? = some (.deferred (some [])) := by rw [← hU8]; exact (KeepsOthers.setCell U ⟨bi, 0, none⟩ _).same D _ h5 rfl
                  have PA := put_any b0 (hC 8) (hC_len 8).1 (hC_len 8).2 72 x (by omega) hxl U8 g0
                  rw [hst] at PA
                  have HPA := Lib.hid PA
                  have HI := Lib.hid (And.intro g1 (And.intro g2 (And.intro g3 (And.intro g4 (And.intro g5 hU8)))))
                  have H4 := Lib.hid h4
                  have e8 := g2.cell 0
                  have e9 := g1.cell 0
                  simp only [List.getElem?_toArray, List.getElem?_cons_zero] at e8 e9
                  rw [show ((72 : Nat) : Int) = 72 from rfl] at e8
                  clear h0 h1 h2 h3 h4 h5 PA hst hg hx g0 g1 g2 g3 g4 g5 hpl hiv
                  gi_wp2_with fail
                  refine ⟨trivial, ?_⟩
                  refine (CallsIn.inRound l (callsIn_wide.2 HPA.out)).mono ?_
                  rintro e W ⟨rfl, hb, ht⟩
                  obtain ⟨h1, h2, h3, h4, h5, hU8⟩ := HI.out
                  have m2 : Blk W bi 3 #[.int .i64 ((72 : Nat) : Int)] := ht.heap (by have := WZ.out; omega) h2
                  have e2 := m2.cell 0
                  have f2 := m2.frozen 0
                  simp only [List.getElem?_toArray, List.getElem?_cons_zero] at e2
                  rw [show ((72 : Nat) : Int) = 72 from rfl] at e2
                  have HBT := Lib.hid (And.intro hb (And.intro ht m2))
                  clear hb ht m2 h1 h2 h3 h4 h5 e1 hU8 e8 e9
                  gi_wp2
                  obtain ⟨h1, h2, h3, h4, h5, hU8⟩ := HI.out
                  obtain ⟨hb, ht, m2⟩ := HBT.out
                  have wz := XZ.out
                  have wz2 := WZ.out
                  have hlt : b0 < U8.heap.size := by omega
                  have hne : ∀ b : Nat, b = D → ¬ b = b0 := fun b hb h => by have := HD.out; omega
                  have k8 : KeepsFrom w4.heap.size U U8 := by rw [← hU8]; exact (KeepsOthers.setCell _ _ _).from _
                  refine ⟨(k8.trans (KeepsFrom.mk ht.size ?_)).trans ((KeepsOthers.setCell _ _ _).from _), ⟨by rw [← hU8] at ht; have := ht.size; simp [World.setCell] at this ⊢; exact this, ?_⟩, by omega, hb.far (p := ⟨bi, 0, none⟩) (by show b0 ≠ bi; omega) _, Blk.far (ht.heap (by omega) h1 : Blk W (b0 + 1) _ _) (p := ⟨bi, 0, none⟩) (by show b0 + 1 ≠ bi; omega) _, by rw [hiv2]; exact m2.set_ 0 _, (h3.trans (ht.below (by have := h3.size; have := HB0.out; omega) (fun b hb => by omega))).setCell (p := ⟨bi, 0, none⟩) (by show b0 ≤ bi; omega) _, by simp [World.setCell]; exact Nat.le_trans h4 ht.size, ?_⟩
                  · intro k o hB ho hc
                    exact ht.heap (by omega) ho
                  · rintro b hb'
                    have hbb : b = bj ∨ b = bj + 1 := hb'
                    have s8 : U8.heap[b]? = U.heap[b]? := by rw [← hU8]; exact Below.heap_setCell U ⟨bi, 0, none⟩ _ b (by show b ≠ bi; omega)
                    exact (Below.heap_setCell _ ⟨bi, 0, none⟩ _ b (by show b ≠ bi; omega)).trans ((ht.same b (by omega) (by omega)).trans s8)
                  · exact (KeepsOthers.setCell W ⟨bi, 0, none⟩ _).same D _ (ht.heap (hne D rfl) h5) rfl
                · have hiv : iv i = place5 i := by unfold iv place5; split <;> split <;> omega
                  have hiv2 : iv (i + 1) = place5 i + 1 := by unfold iv place5; split <;> split <;> omega
                  have hp1 : place5 i ≠ 64 ∧ place5 i ≠ 74 ∧ place5 i < 74 := by unfold place5; split <;> omega
                  rw [hiv] at e2 h2
                  obtain ⟨P, hP⟩ : ∃ P, place5 i = P := ⟨_, rfl⟩
                  rw [hP] at e2 h2 hst hp1 hiv2
                  have q1 : ((P : Int) == 64) = false := by rw [beq_eq_false_iff_ne]; omega
                  have q2 : ((P : Int) == 74) = false := by rw [beq_eq_false_iff_ne]; omega
                  have PA := put_any b0 (hC i) (hC_len i).1 (hC_len i).2 P x hp1.2.2 hxl U h0
                  rw [hst] at PA
                  have HPA := Lib.hid PA
                  have HI := Lib.hid (And.intro h1 (And.intro h2 (And.intro h3 (And.intro h4 h5))))
                  clear h0 h1 h2 h3 h4 h5 PA hst hg hx
                  gi_wp2_with fail
                  refine ⟨trivial, ?_⟩
                  refine (CallsIn.inRound l (callsIn_wide.2 HPA.out)).mono ?_
                  rintro e W ⟨rfl, hb, ht⟩
                  obtain ⟨h1, h2, h3, h4, h5⟩ := HI.out
                  have m2 : Blk W bi 3 #[.int .i64 (P : Int)] := ht.heap (by omega) h2
                  have e2 := m2.cell 0
                  have f2 := m2.frozen 0
                  simp only [List.getElem?_toArray, List.getElem?_cons_zero] at e2
                  have HBT := Lib.hid (And.intro hb (And.intro ht m2))
                  clear hb ht m2 h1 h2 h3 h4 h5
                  gi_wp2
                  obtain ⟨h1, h2, h3, h4, h5⟩ := HI.out
                  obtain ⟨hb, ht, m2⟩ := HBT.out
                  have wz := XZ.out
                  have hlt : b0 < U.heap.size := by omega
                  have hne : ∀ b : Nat, b = D → ¬ b = b0 := fun b hb h => by have := HD.out; have := WZ.out; omega
                  refine ⟨(KeepsFrom.mk ht.size ?_).trans ((KeepsOthers.setCell _ _ _).from _), ⟨by simp [World.setCell]; exact ht.size, ?_⟩, by omega, hb.far (p := ⟨bi, 0, none⟩) (by show b0 ≠ bi; omega) _, Blk.far (ht.heap (by omega) h1 : Blk W (b0 + 1) _ _) (p := ⟨bi, 0, none⟩) (by show b0 + 1 ≠ bi; omega) _, by rw [hiv2]; exact m2.set_ 0 _, (h3.trans (ht.below (by have := h3.size; have := HB0.out; omega) (fun b hb => by omega))).setCell (p := ⟨bi, 0, none⟩) (by show b0 ≤ bi; omega) _, by simp [World.setCell]; exact Nat.le_trans h4 ht.size, ?_⟩
                  · intro k o hB ho hc
                    exact ht.heap (by omega) ho
                  · rintro b hb'
                    have hbb : b = bj ∨ b = bj + 1 := hb'
                    exact (Below.heap_setCell _ ⟨bi, 0, none⟩ _ b (by show b ≠ bi; omega)).trans (ht.same b (by omega) (by omega))
                  · exact (KeepsOthers.setCell W ⟨bi, 0, none⟩ _).same D _ (ht.heap (hne D rfl) h5) rfl
            case done2 =>
              rintro D2 U hD ⟨hi, _⟩ hDD
              rw [choose85_len] at hi
              omega
            case stop2 =>
              rintro D2 c i U hD _ ⟨rfl, h0, h1, h3, h4, h5⟩ hDD
              have e1 := h1.cell 0
              simp only [List.getElem?_toArray, List.getElem?_cons_zero] at e1
              have HI := Lib.hid (And.intro h0 (And.intro h3 (And.intro h4 (And.intro h5 hDD))))
              clear h0 h1 h3 h4 h5 hDD
              gi_wp2
              obtain ⟨h0, h3, h4, h5, hDD⟩ := HI.out
              have wz := XZ.out
              refine ⟨by simp, .inl ⟨_, _, rfl, run_takeDeferred hDD, ⟨by simp, .inl ⟨_, _, rfl, run_takeDeferred (b := D) ((World.putObj_heap_other (by omega)).trans h5), ?_⟩⟩⟩⟩
              rw [HB0.out]
              refine ⟨_, by simp [results, Try.results10, go_sem], rfl, ?_, ?_⟩
              · exact (World.putObj_heap_other (by have := HD.out; have := WZ.out; omega)).trans ((World.putObj_heap_other (by omega)).trans h0)
              · exact (h3.trans ((Turn.putObj (S := fun b => b0 ≤ b) U (l := D2) (by omega) _).below (by have := h3.size; have := HB0.out; omega) (fun b hb => hb))).trans ((Turn.putObj (S := fun b => b0 ≤ b) _ (l := D) (by have := HD.out; have := WZ.out; omega) _).below (by have := h3.size; have := HB0.out; simp [World.putObj]; omega) (fun b hb => hb))
end Go.Proofs.Ytbhonojfglhbeaa
