/- raw's Chip: a walk. -/
import Derived.Test.YtckhkagkpldoiaaRawI
import Derived.Test.YtckhkagkpldoiaaQTail
import Derived.Sort.BigQuietIn
import Derived.Sort.CutIn
import Derived.Lib.Agree
import Derived.Test.YtckhkagkpldoiaaRawD
import Derived.Deep.WholeRow
namespace Go.Proofs.Ytckhkagkpldoiaa
open Go.RowKit Go.Shelf
attribute [local go_sem] Oper.semAt_some

/-- A chip's bytes set: the first i of them, and all. -/
def chipP (mode : Int) (xs : List UInt8) (chip : Int) (v : UInt8) (i : Nat) : List UInt8 := ((ofL mode chip).take i).foldl (fun l x => l.set x v) xs
def chipB (mode : Int) (xs : List UInt8) (chip : Int) (v : UInt8) : List UInt8 := chipP mode xs chip v (ofL mode chip).length
theorem set_len (v : UInt8) : ∀ (L : List Nat) (xs : List UInt8), (L.foldl (fun l x => l.set x v) xs).length = xs.length
  | [], _ => rfl
  | x :: L, xs => by rw [List.foldl_cons, set_len v L, List.length_set]
theorem chipP_len (mode : Int) (xs : List UInt8) (chip : Int) (v : UInt8) (i : Nat) : (chipP mode xs chip v i).length = xs.length := set_len v _ _
theorem chipP_succ {mode : Int} {xs : List UInt8} {chip : Int} {v : UInt8} {i x : Nat} (h : (ofL mode chip)[i]? = some x) : chipP mode xs chip v (i + 1) = (chipP mode xs chip v i).set x v := by
  unfold chipP
  rw [List.take_add_one, h, List.foldl_append]
  rfl
theorem of_lt {mode chip : Int} {i x : Nat} (h : (ofL mode chip)[i]? = some x) : x < 72 := by
  unfold ofL at h
  split at h
  · rename_i hin
    have hi : i < wdN mode := by have := (List.getElem?_eq_some_iff.1 h).1; rw [List.length_map, List.length_range] at this; exact this
    rw [List.getElem?_map, List.getElem?_range hi] at h
    have h2 := (Option.some.inj h).symm
    obtain ⟨_, hf, _⟩ := mode_fit hi
    simp only at h2
    omega
  · simp at h

set_option maxRecDepth 100000 in
set_option maxHeartbeats 2000000 in
theorem chip_any (xs : List UInt8) (lx : xs.length = 72) (mode chip : Int) (v : UInt8) (w : World) :
    Calls Try.prog 67 #[.agg (rawV xs), .int .i64 mode, .int .i64 chip, .int .u8 (v.toNat : Int)] w fun e w' => e = .returned (.agg (rawV (chipB mode xs chip v))) ∧ Below w.heap.size w w' := by
  have hb := boxRaw (rawV xs)
  have hz := zeroRaw
  have hinf : ∀ zs : List UInt8, zs.length = 72 → (Try.prog.info? 41).map (·.size) = some (rawV zs).size := fun zs hz => by rw [rawV_size, hz]; exact infoRaw
  have HINF := Lib.hid hinf
  have HX := Lib.hid lx
  have HIT := Lib.hid (fun bm bc => of_iter (6 - 1) (by omega) bm bc mode chip)
  have HP0 := Lib.hid (show chipP mode xs chip v 0 = xs from rfl)
  obtain ⟨cv, hcv⟩ : ∃ cv, rawV xs = cv := ⟨_, rfl⟩
  rw [hcv] at hb ⊢
  have HCV := Lib.hid hcv
  obtain ⟨b0, hb0⟩ : ∃ b0, w.heap.size = b0 := ⟨_, rfl⟩
  have HB0 := Lib.hid hb0
  have lv := v.toNat_lt
  obtain ⟨y, hy⟩ : ∃ y, v.toNat = y := ⟨_, rfl⟩
  have HYV := Lib.hid hy
  rw [hy] at lv ⊢
  clear hinf lx hcv hy
  refine (callsIn_wide (n := 6)).1 ?_
  refine callsIn_of_wp_marks Try.func67 rfl trivial ?_ rfl
  simp only [Try.ntmps67, List.size_toArray, List.length_cons, List.length_nil, Nat.reduceAdd, Nat.reduceSub, Array.replicate_succ, Array.replicate_zero, List.push_toArray, List.append_toArray, List.nil_append, List.cons_append]
  gi_wp2_with fail
  refine ⟨trivial, ?_⟩
  clear hb hz
  refine (callsIn_wide.2 (of_any _ _ _)).mono ?_
  rintro e U0 ⟨rfl, hw4⟩
  have M0 : Blk U0 b0 41 cv := by rw [hw4, ← hb0]; exact ((((Blk.new w _ _).alloc _).alloc _).alloc _).alloc _
  have M1 : Blk U0 (b0 + 1) 5 #[.int .u8 (y : Int)] := by
    rw [hw4, ← hb0]; have h := (Blk.new (w.alloc (.cells cv 41)) 5 #[.int .u8 (y : Int)]); rw [World.size_alloc] at h; exact ((h.alloc _).alloc _).alloc _
  have M2 : Blk U0 (b0 + 2) 41 (rawV zero72) := by
    rw [hw4, ← hb0]; have h := (Blk.new ((w.alloc (.cells cv 41)).alloc (.cells #[.int .u8 (y : Int)] 5)) 41 (rawV zero72)); simp only [World.size_alloc] at h; exact (h.alloc _).alloc _
  have M3 : U0.cell? ⟨b0 + 3, 0, none⟩ = some (.int .i64 mode) := by
    have h := (Blk.new (((w.alloc (.cells cv 41)).alloc (.cells #[.int .u8 (y : Int)] 5)).alloc (.cells (rawV zero72) 41)) 3 #[.int .i64 mode]); simp only [World.size_alloc] at h
    rw [hw4, ← hb0]; exact (h.alloc _).cell 0
  have M4 : U0.cell? ⟨b0 + 4, 0, none⟩ = some (.int .i64 chip) := by
    have h := (Blk.new ((((w.alloc (.cells cv 41)).alloc (.cells #[.int .u8 (y : Int)] 5)).alloc (.cells (rawV zero72) 41)).alloc (.cells #[.int .i64 mode] 3)) 3 #[.int .i64 chip]); simp only [World.size_alloc] at h
    rw [hw4, ← hb0]; exact h.cell 0
  have MB : Below b0 w U0 := by
    rw [hw4, ← hb0]; exact (((((Below.refl w.heap.size w).alloc (Nat.le_refl _) _).alloc (by simp) _).alloc (by simp; omega) _).alloc (by simp; omega) _).alloc (by simp; omega) _
  have MZ : U0.heap.size = b0 + 5 := by rw [hw4, ← hb0]; simp
  have N0 := Lib.hid M0
  have N1 := Lib.hid M1
  have N2 := Lib.hid M2
  have N3 := Lib.hid M3
  have N4 := Lib.hid M4
  have NB := Lib.hid MB
  have NZ := Lib.hid MZ
  simp only [World.size_alloc]
  rw [hb0]
  clear M0 M1 M2 M3 M4 MB MZ hw4 hb0
  gi_wp2
  refine iter_law3 (n := 6) rfl (by omega) (gf := 107) (lb := #[.pointer (some ⟨b0 + 3, 0, none⟩), .pointer (some ⟨b0 + 4, 0, none⟩)]) rfl trivial (enters_of Try.func107 (by kernel_rfl) rfl)
    (HIT.out (b0 + 3) (b0 + 4)) (fun b => b < b0 + 5) ?hSt ?hO (fun _ h => h.elim) ?hK (fun _ => rfl)
    (fun i O U => O = (fun b => b < b0 + 5) ∧ Blk U b0 41 (rawV (chipP mode xs chip v i)) ∧ Blk U (b0 + 1) 5 #[.int .u8 (y : Int)] ∧ Blk U (b0 + 2) 41 (rawV zero72) ∧ Below b0 w U ∧ b0 + 5 ≤ U.heap.size)
    (fun _ _ _ _ => False)
    ?hI ?hIx ?h0 ?act1 ?assign ?body ?done ?stop
  case hSt =>
    intro U hU
    have wz := NZ.out
    exact ⟨by rw [World.cell?_of_block (a := ⟨b0 + 3, 0, none⟩) (hU (b0 + 3) (by omega))]; exact N3.out, by rw [World.cell?_of_block (a := ⟨b0 + 4, 0, none⟩) (hU (b0 + 4) (by omega))]; exact N4.out⟩
  case hO => intro b hb; have := NZ.out; omega
  case hK => intro b hb; have := NZ.out; omega
  case hI =>
    rintro i O A B ⟨rfl, h0, h1, h2, h3, h4⟩ t
    have k := fun {b : Nat} {cs : Array Value} {ty : TypeId} (h : Blk A b ty cs) (hb : b < b0 + 5) => (t.heap (fun e => e hb) h : Blk B b ty cs)
    exact ⟨rfl, k h0 (by omega), k h1 (by omega), k h2 (by omega), h3.trans (t.below (by omega) (fun b hb => by
      rcases Nat.lt_or_ge b b0 with hlt | hge
      · exact (hb (by omega)).elim
      · exact hge)), Nat.le_trans h4 t.size⟩
  case hIx => rintro c i O A B h t; exact h.elim
  case h0 => exact ⟨rfl, by rw [HP0.out, HCV.out]; exact N0.out, N1.out, N2.out, NB.out, by have := NZ.out; omega⟩
  case assign =>
    intro l x W K hK
    gi_wp2
    exact hK
  case body =>
    rintro l i x O U hx hsz ⟨rfl, h0, h1, h2, h3, h4⟩
    have hx72 := of_lt hx
    have HS := Lib.hid (chipP_succ (xs := xs) (v := v) hx)
    have hpl : (chipP mode xs chip v i).length = 72 := by rw [chipP_len, HX.out]
    have e0 := (h0.cell x).trans (rawV_get _ (i := x) (by rw [hpl]; exact hx72))
    have f0 := h0.frozen x
    have e1 := h1.cell 0
    simp only [List.getElem?_toArray, List.getElem?_cons_zero] at e1
    have i1 : (x : Int) < 72 := by omega
    have HI := Lib.hid (And.intro h0 (And.intro h1 (And.intro h2 (And.intro h3 h4))))
    clear h0 h1 h2 h3 h4 hsz hpl hx
    gi_wp2
    obtain ⟨h0, h1, h2, h3, h4⟩ := HI.out
    refine ⟨_, (Grow.refl _ (fun b hb => by omega)).setCell (p := ⟨b0, x, none⟩) (.inr ⟨by show b0 < b0 + 5; omega, fun h => by rcases h with h | h <;> (have h' : b0 = _ := h; omega)⟩) _, rfl, ?_, h1.far (p := ⟨b0, x, none⟩) (by show b0 + 1 ≠ b0; omega) _, h2.far (p := ⟨b0, x, none⟩) (by show b0 + 2 ≠ b0; omega) _, h3.setCell (p := ⟨b0, x, none⟩) (by show b0 ≤ b0; omega) _, by simp [World.setCell]; exact h4⟩
    rw [HS.out, ← rawV_set, HYV.out]
    exact h0.set_ x _
  case stop => rintro Dm c i O1 U hD hnD hlen h hK; exact h.elim
  case done =>
    rintro Dm O1 U hD hnD ⟨rfl, h0, h1, h2, h3, h4⟩ hK
    have hcl : (chipB mode xs chip v).length = 72 := by unfold chipB; rw [chipP_len, HX.out]
    have hb : chipP mode xs chip v (ofL mode chip).length = chipB mode xs chip v := rfl
    rw [hb] at h0
    have HI := Lib.hid (HINF.out _ hcl)
    have L1 := run_loadVar_row (P := Try.prog) U b0 41 41 (rawV (chipB mode xs chip v)) (0, 0) _ h0 Try.underlying41 rfl HI.out
    have S1 := run_storeVar_row (P := Try.prog) U (b0 + 2) 41 41 (rawV zero72) (rawV (chipB mode xs chip v)) h2 HI.out (by rw [rawV_size, rawV_size, hcl]; rfl) (rawV_one _)
    obtain ⟨pv, hpv⟩ : ∃ pv, rawV (chipB mode xs chip v) = pv := ⟨_, rfl⟩
    rw [hpv] at L1 S1 h0 HI
    have HPV := Lib.hid hpv
    have H2 := Lib.hid h2
    have H3 := Lib.hid h3
    have HK := Lib.hid hK
    clear h0 h1 h2 h3 h4 hK hcl hb hpv
    gi_wp2_with (first | (refine wpListIn_load_at rfl 41 (.tmp 4) rfl ⟨b0, 0, none⟩ rfl (.agg pv) L1 ?_) | (refine wpListIn_store_at rfl 41 (.tmp 8) (.tmp 17) rfl ⟨b0 + 1 + 1, 0, none⟩ rfl (.agg pv) rfl S1 ?_))
    have nz := NZ.out
    have hKD : (U.setRow (b0 + 2) pv).heap[Dm]? = some (.deferred (some [])) := (setRow_other U (b0 + 2) Dm pv (by omega)).trans HK.out
    have hbk : ((U.setRow (b0 + 2) pv).putObj Dm (.deferred none)).heap[b0 + 2]? = some (.cells pv 41 (0, 0)) := (World.putObj_heap_other (by omega)).trans (H2.out.setRow pv)
    refine ⟨by simp, .inl ⟨_, _, rfl, run_takeDeferred hKD, ?_⟩⟩
    refine ⟨.agg pv, results_cell_row rfl _ _ (b0 + 2) 41 pv (0, 0) _ rfl hbk Try.underlying41 rfl HI.out, by rw [HPV.out], ?_⟩
    have q := H3.out
    have hb0 := HB0.out
    rw [← hb0] at q
    have hq := below_setRow q (g := b0 + 2) (by omega) pv
    exact hq.trans ((Turn.putObj (S := fun b => w.heap.size ≤ b) _ (l := Dm) (by omega) _).below hq.size (fun b hb => hb))
end Go.Proofs.Ytckhkagkpldoiaa
