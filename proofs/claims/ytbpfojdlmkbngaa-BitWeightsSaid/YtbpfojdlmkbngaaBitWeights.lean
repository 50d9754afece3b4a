/- BitWeights, walked: for every x the law returns true. -/
import Derived.Test.YtbpfojdlmkbngaaBitA
import Derived.Test.YtbpfojdlmkbngaaBitP
import Derived.Test.YtbpfojdlmkbngaaBitQ
import Derived.Test.YtbpfojdlmkbngaaBitR
import Derived.Test.YtbpfojdlmkbngaaBitO
import Derived.Test.YtbpfojdlmkbngaaBitW32
import Derived.OpenShut
namespace Go.Proofs.Ytbpfojdlmkbngaa
open Go.RowKit Go.Shelf
attribute [local go_sem] Oper.semAt_some

theorem lit_u64w {a : Int} (h : (Lit.int .u64 a).wf = true) : ∃ x : Nat, a = x ∧ x < 18446744073709551616 := by
  have h2 := bounds_u64 h
  obtain ⟨n, rfl⟩ := Int.eq_ofNat_of_zero_le (a := a) (by omega)
  exact ⟨n, rfl, by omega⟩
theorem ones_get {x i p : Nat} (h : (ones x)[i]? = some p) : p < 64 ∧ x / 2 ^ p % 2 = 1 := by
  have hm : p ∈ onesTo 64 0 x := List.mem_of_getElem? h
  have := onesTo_mem 64 0 x p hm
  rw [Nat.sub_zero] at this
  exact ⟨by omega, this.2.2⟩
theorem ones_lt {x i j p q : Nat} (h : (ones x)[i]? = some p) (h' : (ones x)[j]? = some q) (hij : i < j) : p < q := by
  have hr := onesTo_rise 64 0 x
  obtain ⟨hi, rfl⟩ := List.getElem?_eq_some_iff.1 h
  obtain ⟨hj, rfl⟩ := List.getElem?_eq_some_iff.1 h'
  exact List.pairwise_iff_getElem.1 hr i j hi hj hij

set_option maxRecDepth 100000 in
set_option maxHeartbeats 2000000 in
theorem BitWeights_walk (a0 : Int) (w : World) (w0 : (Lit.int .u64 a0).wf = true) :
    Calls Try.prog 5 #[.int .u64 a0] w fun e w' => e = .returned (.bool true) ∧ Below w.heap.size w w' := by
  obtain ⟨x, rfl, lx⟩ := lit_u64w w0
  clear w0
  refine (callsIn_wide (n := 6)).1 ?_
  refine callsIn_of_wp_marks Try.func5 rfl trivial ?_ rfl
  simp only [Try.ntmps5, List.size_toArray, List.length_cons, List.length_nil, Nat.reduceAdd, Nat.reduceSub, Array.replicate_succ, Array.replicate_zero, List.push_toArray, List.append_toArray, List.nil_append, List.cons_append]
  gi_wp2_with fail
  refine ⟨trivial, ?_⟩
  refine (callsIn_wide.2 (anchor3_any _)).mono ?_
  rintro e wA ⟨rfl, hA⟩
  simp only [World.size_alloc] at hA
  obtain ⟨b0, hb0⟩ : ∃ b0, w.heap.size = b0 := ⟨_, rfl⟩
  have A0 : Blk wA b0 23 #[.int .u64 (x : Int)] := by rw [← hb0]; exact ((Blk.new w _ _).alloc _).below hA (by omega)
  have A1 : Blk wA (b0 + 1) 4 #[.bool false] := by
    rw [← hb0]; have h := Blk.new (w.alloc (.cells #[.int .u64 (x : Int)] 23)) 4 #[.bool false]
    rw [World.size_alloc] at h; exact h.below hA (by omega)
  have AB : Below b0 w wA := by rw [← hb0]; exact (((Below.refl _ w).alloc (Nat.le_refl _) _).alloc (by simp) _).trans (hA.mono (by omega))
  have AZ : b0 + 2 ≤ wA.heap.size := by have := hA.size; simp only [World.size_alloc] at this; omega
  have c0 := A0.cell 0
  simp only [List.getElem?_toArray, List.getElem?_cons_zero] at c0
  have d0 : ∀ o, (wA.alloc o).cell? ⟨b0, 0, none⟩ = some (.int .u64 (x : Int)) := fun o => (A0.alloc o).cell 0
  have d1 : ∀ o o', ((wA.alloc o).alloc o').cell? ⟨b0, 0, none⟩ = some (.int .u64 (x : Int)) := fun o o' => ((A0.alloc o).alloc o').cell 0
  rw [hb0]
  have HB0 := Lib.hid hb0
  have HA0 := Lib.hid A0
  have HA1 := Lib.hid A1
  have HAB := Lib.hid AB
  clear hA hb0 A0 A1 AB
  gi_wp2_with fail
  refine ⟨trivial, ?_⟩
  refine (callsIn_wide.2 (refWeight _ x rfl lx _)).mono ?_
  rintro e w2 ⟨rfl, rfl⟩
  gi_wp2_with fail
  refine ⟨trivial, ?_⟩
  refine (callsIn_wide.2 (ones64_any _ _)).mono ?_
  rintro e w3 ⟨rfl, hw3⟩
  simp only [World.size_alloc] at hw3 ⊢
  obtain ⟨ba, hba⟩ : ∃ ba, wA.heap.size = ba := ⟨_, rfl⟩
  have V0 : Blk w3 b0 23 #[.int .u64 (x : Int)] := by rw [hw3]; exact (((HA0.out.alloc _).alloc _).alloc _)
  have V1 : Blk w3 (b0 + 1) 4 #[.bool false] := by rw [hw3]; exact (((HA1.out.alloc _).alloc _).alloc _)
  have V2 : Blk w3 ba 3 #[.int .i64 (-1)] := by rw [hw3, ← hba]; exact ((Blk.new wA _ _).alloc _).alloc _
  have V3 : Blk w3 (ba + 1) 3 #[.int .i64 0] := by
    rw [hw3, ← hba]; have h := (Blk.new (wA.alloc (.cells #[.int .i64 (-1)] 3)) 3 #[.int .i64 0]).alloc (.cells #[.int .u64 (x : Int)] 23)
    rw [World.size_alloc] at h; exact h
  have V4 : Blk w3 (ba + 1 + 1) 23 #[.int .u64 (x : Int)] := by
    rw [hw3, ← hba]; have h := (Blk.new ((wA.alloc (.cells #[.int .i64 (-1)] 3)).alloc (.cells #[.int .i64 0] 3)) 23 #[.int .u64 (x : Int)])
    rw [World.size_alloc, World.size_alloc] at h; exact h
  have VB : Below b0 w w3 := by
    rw [hw3]; have := HAB.out.size; have := HB0.out; exact ((HAB.out.alloc (by omega) _).alloc (by simp; omega) _).alloc (by simp; omega) _
  have VZ : w3.heap.size = ba + 3 := by rw [hw3, ← hba]; simp only [World.size_alloc]
  rw [hba] at AZ ⊢
  clear hw3 hba HA0 HA1 HAB c0 d0 d1
  gi_wp2
  refine iter_law (n := 6) rfl (by omega) (gf := 33) (lb := #[.pointer (some ⟨ba + 1 + 1, 0, none⟩)]) rfl trivial (enters_of Try.func33 (by kernel_rfl) rfl)
    (ones64_iter (6 - 1) (by omega) (ba + 1 + 1) x lx) ?hSt ?hSl ?hKl (fun _ => rfl)
    (fun i U => (∃ last : Int, -1 ≤ last ∧ Blk U ba 3 #[.int .i64 last] ∧ ∀ p, (ones x)[i]? = some p → last < p) ∧ Blk U (ba + 1) 3 #[.int .i64 (i : Int)] ∧ Blk U b0 23 #[.int .u64 (x : Int)] ∧ Blk U (b0 + 1) 4 #[.bool false] ∧ Below b0 w U)
    (fun _ _ _ => False)
    ?hI (fun _ _ _ _ h _ => h.elim) ?h0 ?act1 ?assign ?body ?done (fun _ _ _ _ _ _ h _ => h.elim)
  case hSt =>
    intro U hU
    exact (hU _ (by omega)).trans V4
  case hSl => rintro c rfl; omega
  case hKl => rintro c rfl; omega
  case hI =>
    rintro i A B ⟨⟨last, hl, h0, hp⟩, h1, h2, h3, h4⟩ t
    exact ⟨⟨last, hl, t.heap (other_cells h0 (by omega)) h0, hp⟩, t.heap (other_cells h1 (by omega)) h1, t.heap (other_cells h2 (by omega)) h2, t.heap (other_cells h3 (by omega)) h3, h4.trans (t.below (by have := HB0.out; have := h4.size; omega) (fun b hb => by rcases hb with hb | hb <;> omega))⟩
  case h0 => exact ⟨⟨-1, by omega, V2, fun p _ => by omega⟩, V3, V0, V1, VB⟩
  case assign =>
    intro l x W K hK
    gi_wp2
    exact hK
  case body =>
    rintro l i p U hy ⟨⟨last, hl, h0, hp⟩, h1, h2, h3, h4⟩
    obtain ⟨hp64, hbit⟩ := ones_get hy
    have hi64 : i < 64 := by
      have h1 := (List.getElem?_eq_some_iff.1 hy).1
      have h2 : (ones x).length = pc x := onesTo_length 64 0 x
      have h3 := pc_le x
      omega
    have hlt := hp p hy
    have hnext : ∀ q, (ones x)[i + 1]? = some q → (p : Int) < q := fun q hq => by have := ones_lt hy hq (by omega); omega
    have q1 : decide ((p : Int) ≤ last) = false := by simp; omega
    have e0 := h0.cell 0
    have f0 := h0.frozen 0
    have e1 := h1.cell 0
    have f1 := h1.frozen 0
    have e2 := h2.cell 0
    simp only [List.getElem?_toArray, List.getElem?_cons_zero] at e0 e1 e2
    have g1 : ∀ v, (U.setCell ⟨ba, 0, none⟩ v).cell? ⟨ba + 1, 0, none⟩ = some (.int .i64 (i : Int)) := fun v => by rw [World.cell?_setCell_other _ _ _ _ (by intro h; injection h with h; omega)]; exact e1
    have RB := fun w => refBit (x : Int) (p : Int) x p rfl rfl lx (by omega) w
    rw [hbit] at RB
    have HRB := Lib.hid RB
    have I0 := Lib.hid h0
    have I1 := Lib.hid h1
    have I2 := Lib.hid h2
    have I3 := Lib.hid h3
    have I4 := Lib.hid h4
    have HN := Lib.hid hnext
    clear h0 h1 h2 h3 h4 hp hnext hbit RB hy
    gi_wp2_with fail
    refine ⟨trivial, ?_⟩
    refine (CallsIn.inRound l (callsIn_wide.2 (HRB.out _))).mono ?_
    rintro e w2 ⟨rfl, rfl⟩
    gi_wp2
    have hs : ∀ (W : World) (a : Nat) (v : Value), W.heap.size ≤ (W.setCell ⟨a, 0, none⟩ v).heap.size := fun W a v => by show W.heap.size ≤ (W.heap.modify _ _).size; rw [Array.size_modify]; exact Nat.le_refl _
    refine ⟨((KeepsOthers.setCell _ _ _).trans (KeepsOthers.setCell _ _ _)).from _, ?_, ⟨p, by omega, (I0.out.set_ 0 _).far (p := ⟨ba + 1, 0, none⟩) (by show ba ≠ ba + 1; omega) _, HN.out⟩, (I1.out.far (p := ⟨ba, 0, none⟩) (by show ba + 1 ≠ ba; omega) _).set_ 0 _, (I2.out.far (p := ⟨ba, 0, none⟩) (by show b0 ≠ ba; omega) _).far (p := ⟨ba + 1, 0, none⟩) (by show b0 ≠ ba + 1; omega) _, (I3.out.far (p := ⟨ba, 0, none⟩) (by show b0 + 1 ≠ ba; omega) _).far (p := ⟨ba + 1, 0, none⟩) (by show b0 + 1 ≠ ba + 1; omega) _, (I4.out.setCell (p := ⟨ba, 0, none⟩) (by show b0 ≤ ba; omega) _).setCell (p := ⟨ba + 1, 0, none⟩) (by show b0 ≤ ba + 1; omega) _⟩
    exact ⟨Nat.le_trans (hs _ _ _) (hs _ _ _), fun b hb => (Below.heap_setCell _ ⟨ba + 1, 0, none⟩ _ b (by show b ≠ ba + 1; omega)).trans (Below.heap_setCell U ⟨ba, 0, none⟩ _ b (by show b ≠ ba; omega))⟩
  case done =>
    rintro D U hD ⟨_, h1, h2, h3, h4⟩ hK
    have hlen : (ones x).length = pc x := onesTo_length 64 0 x
    rw [hlen] at h1
    have e1 := h1.cell 0
    have e2 := h2.cell 0
    have e3 := h3.cell 0
    have f3 := h3.frozen 0
    simp only [List.getElem?_toArray, List.getElem?_cons_zero] at e1 e2 e3
    have I4 := Lib.hid h4
    have HK := Lib.hid hK
    have l8 : x % 256 < 256 := by omega
    have l16 : x % 65536 < 65536 := by omega
    have l32 : x % 4294967296 < 4294967296 := by omega
    have R8 := fun a h w => refWeight a (x % 256) h (by omega) w
    have R16 := fun a h w => refWeight a (x % 65536) h (by omega) w
    have R32 := fun a h w => refWeight a (x % 4294967296) h (by omega) w
    have Q8 := fun a h w => weight8 a (x % 256) h (by omega) w
    have Q16 := fun a h w => weight16 a (x % 65536) h (by omega) w
    have Q32 := fun a h w => weight32 a (x % 4294967296) h (by omega) w
    have QP := fun a h w => parity8 a (x % 256) h (by omega) w
    have QX := fun w => weight64 (x : Int) x rfl lx w
    have QPX := fun w => parity64 (x : Int) x rfl lx w
    have b8 := pc_le (x % 256)
    have bx := pc_le x
    obtain ⟨P, hP⟩ : ∃ P, pc x = P := ⟨_, rfl⟩
    obtain ⟨P8, hP8⟩ : ∃ P, pc (x % 256) = P := ⟨_, rfl⟩
    obtain ⟨P16, hP16⟩ : ∃ P, pc (x % 65536) = P := ⟨_, rfl⟩
    obtain ⟨P32, hP32⟩ : ∃ P, pc (x % 4294967296) = P := ⟨_, rfl⟩
    rw [hP8] at R8 Q8 QP b8
    rw [hP16] at R16 Q16
    rw [hP32] at R32 Q32
    rw [hP] at QX QPX e1 bx ⊢
    have H1 := Lib.hid R8
    have H2 := Lib.hid R16
    have H3 := Lib.hid R32
    have H4 := Lib.hid Q8
    have H5 := Lib.hid Q16
    have H6 := Lib.hid Q32
    have H7 := Lib.hid QP
    have H8 := Lib.hid QX
    have H9 := Lib.hid QPX
    clear h1 h2 h3 h4 hK hlen R8 R16 R32 Q8 Q16 Q32 QP QX QPX hP hP8 hP16 hP32 l8 l16 l32
    gi_wp2_with fail
    refine ⟨trivial, ?_⟩
    refine (callsIn_wide.2 (H1.out _ (by omega) _)).mono ?_
    rintro e w2 ⟨rfl, rfl⟩
    gi_wp2_with fail
    refine ⟨trivial, ?_⟩
    refine (callsIn_wide.2 (H2.out _ (by omega) _)).mono ?_
    rintro e w2 ⟨rfl, rfl⟩
    gi_wp2_with fail
    refine ⟨trivial, ?_⟩
    refine (callsIn_wide.2 (H3.out _ (by omega) _)).mono ?_
    rintro e w2 ⟨rfl, rfl⟩
    gi_wp2_with fail
    refine ⟨trivial, ?_⟩
    refine (callsIn_wide.2 (H8.out _)).mono ?_
    rintro e w2 ⟨rfl, rfl⟩
    gi_wp2_with fail
    refine ⟨trivial, ?_⟩
    refine (callsIn_wide.2 (H9.out _)).mono ?_
    rintro e w2 ⟨rfl, rfl⟩
    gi_wp2_with fail
    refine ⟨trivial, ?_⟩
    refine (callsIn_wide.2 (H4.out _ (by first | omega | (rw [IntKind.wrap_u8']; omega)) _)).mono ?_
    rintro e w2 ⟨rfl, rfl⟩
    gi_wp2_with fail
    refine ⟨trivial, ?_⟩
    refine (callsIn_wide.2 (H7.out _ (by first | omega | (rw [IntKind.wrap_u8']; omega)) _)).mono ?_
    rintro e w2 ⟨rfl, rfl⟩
    gi_wp2_with fail
    refine ⟨trivial, ?_⟩
    refine (callsIn_wide.2 (H5.out _ (by first | omega | (rw [IntKind.wrap_u16]; omega)) _)).mono ?_
    rintro e w2 ⟨rfl, rfl⟩
    gi_wp2_with fail
    refine ⟨trivial, ?_⟩
    refine (callsIn_wide.2 (H6.out _ (by first | omega | (rw [IntKind.wrap_u32']; omega)) _)).mono ?_
    rintro e w2 ⟨rfl, rfl⟩
    gi_wp2
    have hKD := (KeepsOthers.setCell U ⟨b0 + 1, 0, none⟩ (.bool true)).same D _ HK.out rfl
    refine ⟨by simp, .inl ⟨_, _, rfl, run_takeDeferred hKD, ?_⟩⟩
    have hcell := cell_kept (World.cell?_setCell_same' U ⟨b0 + 1, 0, none⟩ (.bool true) (by rw [e3]; rfl)) (grownBy_putObj' _ D (.deferred none)) (fun r e => by cases e; exact ⟨_, hKD, rfl⟩)
    refine ⟨_, by simp [results, Try.results5, go_sem, hcell], rfl, ?_⟩
    have q := I4.out
    rw [← HB0.out] at q
    exact (q.setCell (p := ⟨b0 + 1, 0, none⟩) (by have := HB0.out; show w.heap.size ≤ b0 + 1; omega) _).trans (belowK_b (w := w) (Nat.le_refl _) _ D _ _ (by have := HB0.out; omega) hKD rfl rfl)
end Go.Proofs.Ytbpfojdlmkbngaa
