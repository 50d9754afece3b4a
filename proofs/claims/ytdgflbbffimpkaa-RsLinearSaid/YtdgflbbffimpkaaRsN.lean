/- rs.New: the code, its polynomial laid: a walk. -/
import Derived.Test.YtdgflbbffimpkaaAppB
import Derived.Test.YtdgflbbffimpkaaGfI
import Derived.Test.YtdgflbbffimpkaaPolyH
import Derived.Test.YtdgflbbffimpkaaPolyI
import Derived.Test.YtdgflbbffimpkaaRsM
namespace Go.Proofs.Ytdgflbbffimpkaa
open Go.RowKit Go.Shelf
set_option linter.unusedVariables false
attribute [local go_sem] Oper.semAt_some

def genL : List UInt8 := rootsL [1, 2, 4, 8]
theorem genL_eq : genL = [64, 120, 54, 15, 1] := by decide +kernel
/-- The code lies at block cb, over the field at fb. -/
def CodeAt (W : World) (cb fb : Nat) : Prop := ∃ A c, Blk W cb 59 #[.pointer (some ⟨fb, 0, none⟩), .slice A 5 c] ∧ FieldAt W fb ∧ RdB W A genL ∧ 5 ≤ c
theorem CodeAt.below {W W' : World} {cb fb : Nat} (h : CodeAt W cb fb) (hb : Below W.heap.size W W') : CodeAt W' cb fb := by
  obtain ⟨A, c, h1, h2, h3, h4⟩ := h
  exact ⟨A, c, h1.below hb h1.lt, (hb.block fb (Array.getElem?_eq_some_iff.1 h2).1).trans h2, h3.below hb, h4⟩

/-- One byte is appended to the last row of the list. -/
theorem app_row {B : Nat} {base W : World} {L0 : Objs} {g : Nat} {xs : List UInt8} {rest : List Value} {y : UInt8} (hO : Own B base (L0 ++ [cellsO g 5 (rowV xs rest)]) W) (hB : B ≤ W.heap.size) (hl : xs.length ≤ 1000) :
    ∃ W' g' rest' E, (∀ ty, (Builtin.append_ #[52, 52] ty #[.slice (some ⟨g, 0, none⟩) xs.length (xs.length + rest.length), .slice (some ⟨W.heap.size, 0, none⟩) 1 1]).run Try.prog (W.alloc (.cells #[vU y] 5)) = .ok (.slice (some ⟨g', 0, none⟩) (xs.length + 1) (xs.length + 1 + rest'.length)) W') ∧
      Own B base (L0 ++ cellsO g' 5 (rowV (xs ++ [y]) rest') :: E) W' ∧ (g' = g ∨ W.heap.size ≤ g') ∧ (∀ e ∈ E, (e.1 = g ∨ W.heap.size ≤ e.1) ∧ e.2.isCells = true) ∧ (g' = g ∨ ∃ e ∈ E, e.1 = g) := by
  have h1 := hO.alloc hB (.cells #[vU y] 5)
  have hk : (L0 ++ [cellsO g 5 (rowV xs rest)] ++ [(W.heap.size, Obj.cells #[vU y] 5)])[L0.length]? = some (cellsO g 5 (rowV xs rest)) := by simp
  have hb := h1.blk hk
  have hr : RdB (W.alloc (.cells #[vU y] 5)) (some ⟨W.heap.size, 0, none⟩) [y] := RdB.row (rest := []) (Blk.new W 5 (rowV [y] []))
  by_cases hlen : ([y] : List UInt8).length ≤ rest.length
  · have hrun := fun ty => run_app_room (xs := xs) (rest := rest) (c := 1) hb hr hlen ty
    have h2 := h1.setRow hk (rowV (xs ++ [y]) (rest.drop 1))
    refine ⟨(W.alloc (.cells #[vU y] 5)).setRow g (rowV (xs ++ [y]) (rest.drop 1)), g, rest.drop 1, [(W.heap.size, Obj.cells #[vU y] 5)], fun ty => (hrun ty).trans ?_, ?_, .inl rfl, ?_, .inl rfl⟩
    · have hlen' : 1 ≤ rest.length := hlen
      have e2 : xs.length + rest.length = xs.length + 1 + (rest.drop 1).length := by rw [List.length_drop]; omega
      rw [← e2]
      rfl
    · have e : (L0 ++ [cellsO g 5 (rowV xs rest)] ++ [(W.heap.size, Obj.cells #[vU y] 5)]).set L0.length (cellsO g 5 (rowV (xs ++ [y]) (rest.drop 1))) = L0 ++ cellsO g 5 (rowV (xs ++ [y]) (rest.drop 1)) :: [(W.heap.size, Obj.cells #[vU y] 5)] := by
        rw [List.append_assoc, List.set_append_right _ _ (Nat.le_refl _), Nat.sub_self]; rfl
      rw [← e]; exact h2
    · intro e he
      obtain rfl := List.mem_singleton.1 he
      exact ⟨.inr (Nat.le_refl _), rfl⟩
  · obtain ⟨rest', hm, hrun⟩ := run_app_grow (xs := xs) (rest := rest) (c := 1) hb hr (by omega) (by simp; omega)
    have h2 := h1.drew.alloc (by simp; omega) (.cells (rowV (xs ++ [y]) rest') 5)
    refine ⟨_, _, rest', [cellsO g 5 (rowV xs rest), (W.heap.size, Obj.cells #[vU y] 5)], hrun, ?_, .inr (by simp), ?_, .inr ⟨cellsO g 5 (rowV xs rest), by simp, rfl⟩⟩
    · refine h2.perm ?_
      rw [List.append_assoc, List.append_assoc]
      refine List.Perm.append_left L0 ?_
      exact List.perm_append_comm (l₁ := [cellsO g 5 (rowV xs rest), (W.heap.size, Obj.cells #[vU y] 5)]) (l₂ := [((W.alloc (.cells #[vU y] 5)).drew.heap.size, Obj.cells (rowV (xs ++ [y]) rest') 5)])
    · intro e he
      simp only [List.mem_cons, List.not_mem_nil, or_false] at he
      rcases he with rfl | rfl
      · exact ⟨.inl rfl, rfl⟩
      · exact ⟨.inr (Nat.le_refl _), rfl⟩
theorem app_none {B : Nat} {base W : World} {L0 : Objs} {y : UInt8} (hO : Own B base L0 W) (hB : B ≤ W.heap.size) :
    ∃ W' g' rest' E, (∀ ty, (Builtin.append_ #[52, 52] ty #[.slice none 0 0, .slice (some ⟨W.heap.size, 0, none⟩) 1 1]).run Try.prog (W.alloc (.cells #[vU y] 5)) = .ok (.slice (some ⟨g', 0, none⟩) 1 (1 + rest'.length)) W') ∧
      Own B base (L0 ++ cellsO g' 5 (rowV [y] rest') :: E) W' ∧ W.heap.size ≤ g' ∧ (∀ e ∈ E, W.heap.size ≤ e.1 ∧ e.2.isCells = true) := by
  have h1 := hO.alloc hB (.cells #[vU y] 5)
  have hr : RdB (W.alloc (.cells #[vU y] 5)) (some ⟨W.heap.size, 0, none⟩) [y] := RdB.row (rest := []) (Blk.new W 5 (rowV [y] []))
  obtain ⟨rest', hm, hrun⟩ := run_app_nil (c := 1) hr (by simp) (by simp)
  have h2 := h1.drew.alloc (by simp; omega) (.cells (rowV [y] rest') 5)
  refine ⟨_, _, rest', [(W.heap.size, Obj.cells #[vU y] 5)], hrun, ?_, by simp, ?_⟩
  · refine h2.perm ?_
    rw [List.append_assoc]
    refine List.Perm.append_left L0 ?_
    exact List.perm_append_comm (l₁ := [(W.heap.size, Obj.cells #[vU y] 5)]) (l₂ := [((W.alloc (.cells #[vU y] 5)).drew.heap.size, Obj.cells (rowV [y] rest') 5)])
  · intro e he
    obtain rfl := List.mem_singleton.1 he
    exact ⟨Nat.le_refl _, rfl⟩

theorem gpow2_pw (i : Nat) : gpow 2 i = (pw 2 i).toNat := by
  induction i with
  | zero => rfl
  | succ i ih => rw [gpow, ih, pw, gm_toNat]; rfl
def pwL (i : Nat) : List UInt8 := (List.range i).map (pw 2)
theorem pwL_len (i : Nat) : (pwL i).length = i := by simp [pwL]
theorem pwL_succ (i : Nat) : pwL i ++ [pw 2 i] = pwL (i + 1) := by unfold pwL; rw [List.range_succ, List.map_append]; rfl
theorem pwL_4 : pwL 4 = [1, 2, 4, 8] := by decide +kernel
theorem naS : ∀ w, (isAgg 52).run Try.prog w = .ok false w := fun _ => by kernel_rfl
theorem szS : (Try.prog.info? 52).map (·.size) = some 1 := by kernel_rfl
theorem alS : ∀ w : World, (Instr.alloc 52 true (.tuple #[])).run Try.prog w = .ok (.pointer (some ⟨w.heap.size, 0, none⟩)) (w.alloc (.cells #[.slice none 0 0] 52)) := fun _ => by kernel_rfl
/-- The variables of rs.New: the roots' slice, and what the powers hold. -/
abbrev nwL (b0 fb : Nat) (v : Value) : Objs := [cellsO b0 52 #[v], cellsO (b0 + 1) 43 #[.pointer (some ⟨fb, 0, none⟩)], cellsO (b0 + 1 + 1) 5 #[.int .u8 2], cellsO (b0 + 1 + 1 + 1) 3 #[.int .i64 4]]
/-- Behind i rounds. -/
def nwRel (b0 fb i : Nat) (Ls : Objs) : Prop := (i = 0 ∧ Ls = nwL b0 fb (.slice none 0 0)) ∨ (1 ≤ i ∧ ∃ g rest, Ls = nwL b0 fb (.slice (some ⟨g, 0, none⟩) i (i + rest.length)) ++ [cellsO g 5 (rowV (pwL i) rest)])
theorem nwNext {b0 fb i : Nat} {W1 W' : World} {Ls E : Objs} {g' : Nat} {rest' : List Value} {v0 v : Value} {K : Nat → Prop} (hv : v = .slice (some ⟨g', 0, none⟩) (i + 1) (i + 1 + rest'.length))
    (hO : Own b0 W1 (nwL b0 fb v ++ cellsO g' 5 (rowV (pwL (i + 1)) rest') :: E) W')
    (h1 : ∀ x ∈ nwL b0 fb v0, x ∈ Ls) (hg : (∃ x ∈ Ls, x.1 = g') ∨ W1.heap.size ≤ g') (hE : ∀ e ∈ E, ((∃ x ∈ Ls, x.1 = e.1) ∨ W1.heap.size ≤ e.1) ∧ e.2.isCells = true)
    (hx : ∀ x ∈ Ls, x ∈ nwL b0 fb v0 ∨ x.1 = g' ∨ ∃ e ∈ E, e.1 = x.1) (hK : ∀ b, K b → b < b0 ∨ b = b0 + 1 ∨ b = b0 + 1 + 1 ∨ b = b0 + 1 + 1 + 1) : OwnNext b0 K W1 Ls (nwRel b0 fb (i + 1)) W' := by
  subst hv
  have hmap : ∀ (u : Value) x, x ∈ nwL b0 fb u → ∃ y ∈ nwL b0 fb v0, y.1 = x.1 := fun u x hx => by
    simp only [nwL, List.mem_cons, List.not_mem_nil, or_false] at hx
    rcases hx with rfl | rfl | rfl | rfl
    · exact ⟨cellsO b0 52 #[v0], by simp, rfl⟩
    · exact ⟨cellsO (b0 + 1) 43 #[.pointer (some ⟨fb, 0, none⟩)], by simp, rfl⟩
    · exact ⟨cellsO (b0 + 1 + 1) 5 #[.int .u8 2], by simp, rfl⟩
    · exact ⟨cellsO (b0 + 1 + 1 + 1) 3 #[.int .i64 4], by simp, rfl⟩
  refine ⟨_, nwL b0 fb (.slice (some ⟨g', 0, none⟩) (i + 1) (i + 1 + rest'.length)) ++ [cellsO g' 5 (rowV (pwL (i + 1)) rest')], hO, ?_, ?_, .inr ⟨by omega, g', rest', rfl⟩, ?_, ?_, ?_, ?_⟩
  · intro y hy
    rcases List.mem_append.1 hy with hy | hy
    · exact List.mem_append_left _ hy
    · obtain rfl := List.mem_singleton.1 hy
      exact List.mem_append_right _ List.mem_cons_self
  · have hn := hO.nd
    rw [show nwL b0 fb (.slice (some ⟨g', 0, none⟩) (i + 1) (i + 1 + rest'.length)) ++ cellsO g' 5 (rowV (pwL (i + 1)) rest') :: E = (nwL b0 fb (.slice (some ⟨g', 0, none⟩) (i + 1) (i + 1 + rest'.length)) ++ [cellsO g' 5 (rowV (pwL (i + 1)) rest')]) ++ E by rw [List.append_assoc]; rfl] at hn
    exact (List.pairwise_append.1 hn).1
  · intro y hy
    rcases List.mem_append.1 hy with hy | hy
    · obtain ⟨x, hx, e⟩ := hmap _ y hy
      exact .inl ⟨x, h1 x hx, e⟩
    · rcases List.mem_cons.1 hy with rfl | hy
      · exact hg
      · exact (hE y hy).1
  · intro x hx2
    rcases hx x hx2 with h | h | ⟨e, he, h⟩
    · simp only [nwL, List.mem_cons, List.not_mem_nil, or_false] at h
      rcases h with rfl | rfl | rfl | rfl
      · exact ⟨_, List.mem_append_left _ (List.mem_cons_self), rfl⟩
      · exact ⟨_, List.mem_append_left _ (List.mem_cons_of_mem _ List.mem_cons_self), rfl⟩
      · exact ⟨_, List.mem_append_left _ (List.mem_cons_of_mem _ (List.mem_cons_of_mem _ List.mem_cons_self)), rfl⟩
      · exact ⟨_, List.mem_append_left _ (List.mem_cons_of_mem _ (List.mem_cons_of_mem _ (List.mem_cons_of_mem _ List.mem_cons_self))), rfl⟩
    · exact ⟨_, List.mem_append_right _ List.mem_cons_self, h.symm⟩
    · exact ⟨e, List.mem_append_right _ (List.mem_cons_of_mem _ he), h⟩
  · intro b hb
    have hin : ∀ x, x ∈ (nwL b0 fb v0).tail → x ∈ Ls ∧ x ∈ nwL b0 fb (.slice (some ⟨g', 0, none⟩) (i + 1) (i + 1 + rest'.length)) ++ cellsO g' 5 (rowV (pwL (i + 1)) rest') :: E := fun x hx => ⟨h1 x (List.mem_of_mem_tail hx), List.mem_append_left _ (List.mem_cons_of_mem _ hx)⟩
    rcases hK b hb with h | rfl | rfl | rfl
    · exact .inl h
    · exact .inr ⟨cellsO (b0 + 1) 43 #[.pointer (some ⟨fb, 0, none⟩)], (hin _ (by simp)).1, (hin _ (by simp)).2, rfl⟩
    · exact .inr ⟨cellsO (b0 + 1 + 1) 5 #[.int .u8 2], (hin _ (by simp)).1, (hin _ (by simp)).2, rfl⟩
    · exact .inr ⟨cellsO (b0 + 1 + 1 + 1) 3 #[.int .i64 4], (hin _ (by simp)).1, (hin _ (by simp)).2, rfl⟩
  · intro y hy
    rcases List.mem_append.1 hy with hy | hy
    · simp only [nwL, List.mem_cons, List.not_mem_nil, or_false] at hy
      rcases hy with rfl | rfl | rfl | rfl <;> exact .inl rfl
    · rcases List.mem_cons.1 hy with rfl | hy
      · exact .inl rfl
      · exact .inl (hE y hy).2

set_option maxRecDepth 100000 in
set_option maxHeartbeats 1000000 in
theorem rsNew_own (fb : Nat) (w : World) (hF : FieldAt w fb) :
    Calls Try.prog 24 #[.pointer (some ⟨fb, 0, none⟩)] w fun e w' => ∃ cb gb rest, e = .returned (.pointer (some ⟨cb, 0, none⟩)) ∧ Own w.heap.size w [(gb, Obj.cells (rowV genL rest) 5 (0, 0)), (cb, Obj.cells #[.pointer (some ⟨fb, 0, none⟩), .slice (some ⟨gb, 0, none⟩) 5 (5 + rest.length)] 59 (0, 0))] w' := by
  have HF := Lib.hid hF
  have HE := Lib.hid (fun W h => exp_any fb 1 1 (by omega) W h)
  rw [show gE 1 = 2 by decide +kernel, show ((2 : Nat) : Int) = 2 from rfl] at HE
  obtain ⟨b0, hb0⟩ : ∃ b0, w.heap.size = b0 := ⟨_, rfl⟩
  have HB0 := Lib.hid hb0
  have HFB := Lib.hid (show fb < b0 by rw [← hb0]; exact (Array.getElem?_eq_some_iff.1 hF).1)
  have OW := Lib.hid (Own.start b0 w)
  have OZ := Lib.hid (And.intro hb0 (Nat.le_refl b0))
  clear hb0 hF
  refine (callsIn_wide (n := 6)).1 ?_
  refine callsIn_of_wp_marks Try.func24 rfl trivial ?_ rfl
  simp only [Try.ntmps24, List.size_toArray, List.length_cons, List.length_nil, Nat.reduceAdd, Nat.reduceSub, Array.replicate_succ, Array.replicate_zero, List.push_toArray, List.append_toArray, List.nil_append, List.cons_append]
  gi_wp2_with (refine own_alloc 52 rfl rfl _ alS OW OZ ?_; clear OW OZ; intro W OW OZ)
  refine ⟨trivial, ?_⟩
  refine (callsIn_wide.2 (HE.out W (OW.out.field HB0.out HF.out))).mono ?_
  rintro e W1 ⟨rfl, qd, hq⟩
  have OW2 := Lib.hid (OW.out.drewN qd)
  have OZ2 := Lib.hid (show W1.heap.size = b0 + 1 ∧ b0 ≤ b0 + 1 by rw [hq]; exact OZ.out)
  rw [← hq] at OW2
  clear OW OZ HE hq
  gi_wp2_with fail
  refine ⟨trivial, ?_⟩
  refine (callsIn_wide.2 (powers_any fb 2 4 W1)).mono ?_
  rintro e U ⟨rfl, hU⟩
  rw [OZ2.out.1]
  have hOU : Own b0 w (nwL b0 fb (.slice none 0 0)) U := by
    have h1 := OW2.out.alloc (by rw [OZ2.out.1]; exact OZ2.out.2) (.cells #[.pointer (some ⟨fb, 0, none⟩)] 43)
    have h2 := h1.alloc (by simp; rw [OZ2.out.1]; omega) (.cells #[.int .u8 2] 5)
    have h3 := h2.alloc (by simp; rw [OZ2.out.1]; omega) (.cells #[.int .i64 4] 3)
    rw [← hU] at h3
    simpa [OZ2.out.1] using h3
  have hZU : U.heap.size = b0 + 4 ∧ b0 ≤ b0 + 4 := ⟨by rw [hU]; simp [OZ2.out.1], by omega⟩
  clear OW2 OZ2 hU
  have OW := Lib.hid hOU
  have OZ := Lib.hid hZU
  clear hOU hZU
  gi_wp2
  refine own_iterB (n := 6) rfl (by omega) (gf := 41) (lb := #[.pointer (some ⟨b0 + 1 + 2, 0, none⟩), .pointer (some ⟨b0 + 1, 0, none⟩), .pointer (some ⟨b0 + 1 + 1, 0, none⟩)]) rfl trivial (enters_of Try.func41 (by kernel_rfl) rfl)
    (Iter.to3 (powers_iter (6 - 1) (by omega) fb (b0 + 1 + 2) (b0 + 1) (b0 + 1 + 1) 2 4 (by omega) (by omega) 4 (by omega)) (fun _ h => h.elim) (fun W h b hb => by
      obtain ⟨s1, s2, s3, s4⟩ := h
      rcases hb with rfl | rfl | rfl | rfl
      · obtain ⟨o, ho, _⟩ := cells_of_cell s1; exact (Array.getElem?_eq_some_iff.1 ho).1
      · obtain ⟨o, ho, _⟩ := cells_of_cell s2; exact (Array.getElem?_eq_some_iff.1 ho).1
      · obtain ⟨o, ho, _⟩ := cells_of_cell s3; exact (Array.getElem?_eq_some_iff.1 ho).1
      · exact (Array.getElem?_eq_some_iff.1 s4).1)) HB0.out
    (fun i Ls => nwRel b0 fb i Ls) (fun _ _ _ => False) (.inl ⟨rfl, rfl⟩) OW OZ ?hSt ?hK (fun _ => rfl) ?act1 ?assign ?body ?done ?stop
  case hSt =>
    intro W' hW'
    have h1 := OW.out.blk (k := 1) rfl
    have h2 := OW.out.blk (k := 2) rfl
    have h3 := OW.out.blk (k := 3) rfl
    have hf := OW.out.field HB0.out HF.out
    refine ⟨?_, ?_, ?_, (hW' fb (Array.getElem?_eq_some_iff.1 hf).1).trans hf⟩
    · rw [World.cell?_of_block (a := ⟨b0 + 1 + 2, 0, none⟩) (hW' _ h3.lt)]; exact h3.cell 0
    · rw [World.cell?_of_block (a := ⟨b0 + 1, 0, none⟩) (hW' _ h1.lt)]; exact h1.cell 0
    · rw [World.cell?_of_block (a := ⟨b0 + 1 + 1, 0, none⟩) (hW' _ h2.lt)]; exact h2.cell 0
  case hK =>
    rintro b (rfl | rfl | rfl | rfl)
    · exact .inr ⟨cellsO (b0 + 1 + 1 + 1) 3 #[.int .i64 4], by simp, rfl⟩
    · exact .inr ⟨cellsO (b0 + 1) 43 #[.pointer (some ⟨fb, 0, none⟩)], by simp, rfl⟩
    · exact .inr ⟨cellsO (b0 + 1 + 1) 5 #[.int .u8 2], by simp, rfl⟩
    · exact .inl HFB.out
  case assign =>
    intro l x W K hK
    gi_wp2
    exact hK
  case body =>
    rintro l i x Ls W1 G1 hx hrel OW1 OW2 OZ1 OM
    have hi : i < 4 := by have := (List.getElem?_eq_some_iff.1 hx).1; simpa using this
    rw [List.getElem?_map, List.getElem?_range hi] at hx
    obtain rfl : (i, gpow 2 i) = x := Option.some.inj hx
    rw [gpow2_pw]
    have HPS := Lib.hid (pwL_succ i)
    have HPL := Lib.hid (pwL_len i)
    have HKK := Lib.hid (show ∀ b, (b = b0 + 1 + 2 ∨ b = b0 + 1 ∨ b = b0 + 1 + 1 ∨ b = fb) → b < b0 ∨ b = b0 + 1 ∨ b = b0 + 1 + 1 ∨ b = b0 + 1 + 1 + 1 by
      rintro b (h | h | h | h)
      · exact .inr (.inr (.inr h))
      · exact .inr (.inl h)
      · exact .inr (.inr (.inl h))
      · exact .inl (by rw [h]; exact HFB.out))
    obtain ⟨y, hy⟩ : ∃ y, pw 2 i = y := ⟨_, rfl⟩
    rw [hy] at HPS ⊢
    rcases hrel with ⟨rfl, rfl⟩ | ⟨h1i, g, rest, rfl⟩
    · obtain ⟨W2, g', rest', E, hrun, hO2, hg', hE⟩ := app_none (y := y) OW2.out (by rw [OZ1.out.1]; exact OZ1.out.2)
      have HRUN := Lib.hid hrun
      have OW3 := Lib.hid hO2
      obtain ⟨G2, OZ3⟩ : ∃ G2, RowKit.Hid (W2.heap.size = G2 ∧ b0 ≤ G2) := ⟨_, And.intro rfl (by have := hO2.size; have := OZ1.out; omega)⟩
      have HE := Lib.hid (And.intro hg' hE)
      clear hrun hO2 hg' hE hx hy OW1
      gi_wp2_with (first
        | (refine own_load 0 52 (.tmp 3) rfl rfl rfl rfl (.slice none 0 0) rfl naS OW2 ?_)
        | (refine op_append 52 (.tmp 12) (.tmp 14) rfl rfl (.slice none 0 0) (.slice (some ⟨W1.heap.size, 0, none⟩) 1 1) (.slice (some ⟨g', 0, none⟩) 1 (1 + rest'.length)) rfl rfl HRUN.out ?_)
        | (refine own_store 0 52 (.tmp 3) (.tmp 15) rfl rfl rfl rfl (.slice (some ⟨g', 0, none⟩) 1 (1 + rest'.length)) rfl #[.slice (some ⟨g', 0, none⟩) 1 (1 + rest'.length)] rfl (Nat.le_of_ble_eq_true rfl) rfl szS _ rfl OW3 OZ3 ?_; clear OW3 OZ3; intro W OW3 OZ3))
      refine nwNext (v0 := .slice none 0 0) (v := .slice (some ⟨g', 0, none⟩) 1 (1 + rest'.length)) (g' := g') (E := E) (rest' := rest') rfl (by rw [← HPS.out]; exact OW3.out) (fun x hx => hx) (.inr HE.out.1) (fun e he => ⟨.inr (HE.out.2 e he).1, (HE.out.2 e he).2⟩) (fun x hx => .inl hx) HKK.out
    · obtain ⟨W2, g', rest', E, hrun, hO2, hg', hE, hgE⟩ := app_row (xs := pwL i) (y := y) OW2.out (by rw [OZ1.out.1]; exact OZ1.out.2) (by rw [pwL_len]; omega)
      rw [HPL.out] at hrun
      have HRUN := Lib.hid hrun
      have OW3 := Lib.hid hO2
      obtain ⟨G2, OZ3⟩ : ∃ G2, RowKit.Hid (W2.heap.size = G2 ∧ b0 ≤ G2) := ⟨_, And.intro rfl (by have := hO2.size; have := OZ1.out; omega)⟩
      have HE := Lib.hid (And.intro hg' (And.intro hE hgE))
      clear hrun hO2 hg' hE hgE hx hy OW1
      gi_wp2_with (first
        | (refine own_load 0 52 (.tmp 3) rfl rfl rfl rfl (.slice (some ⟨g, 0, none⟩) i (i + rest.length)) rfl naS OW2 ?_)
        | (refine op_append 52 (.tmp 12) (.tmp 14) rfl rfl (.slice (some ⟨g, 0, none⟩) i (i + rest.length)) (.slice (some ⟨W1.heap.size, 0, none⟩) 1 1) (.slice (some ⟨g', 0, none⟩) (i + 1) (i + 1 + rest'.length)) rfl rfl HRUN.out ?_)
        | (refine own_store 0 52 (.tmp 3) (.tmp 15) rfl rfl rfl rfl (.slice (some ⟨g', 0, none⟩) (i + 1) (i + 1 + rest'.length)) rfl #[.slice (some ⟨g', 0, none⟩) (i + 1) (i + 1 + rest'.length)] rfl (Nat.le_of_ble_eq_true rfl) rfl szS _ rfl OW3 OZ3 ?_; clear OW3 OZ3; intro W OW3 OZ3))
      have hin : ∃ x ∈ nwL b0 fb (.slice (some ⟨g, 0, none⟩) i (i + rest.length)) ++ [cellsO g 5 (rowV (pwL i) rest)], x.1 = g := ⟨cellsO g 5 (rowV (pwL i) rest), by simp, rfl⟩
      refine nwNext (v0 := .slice (some ⟨g, 0, none⟩) i (i + rest.length)) (v := .slice (some ⟨g', 0, none⟩) (i + 1) (i + 1 + rest'.length)) (g' := g') (E := E) (rest' := rest') rfl (by rw [← HPS.out]; exact OW3.out) (fun x hx => List.mem_append_left _ hx) ?_ (fun e he => ⟨?_, (HE.out.2.1 e he).2⟩) (fun x hx => ?_) HKK.out
      · rcases HE.out.1 with h | h
        · exact .inl (by rw [h]; exact hin)
        · exact .inr h
      · rcases (HE.out.2.1 e he).1 with h | h
        · exact .inl (by rw [h]; exact hin)
        · exact .inr h
      · rcases List.mem_append.1 hx with hx | hx
        · exact .inl hx
        · obtain rfl := List.mem_singleton.1 hx
          rcases HE.out.2.2 with h | h
          · exact .inr (.inl h.symm)
          · exact .inr (.inr h)
  case stop => rintro D c' i Ls W2 G2 hi h; exact h.elim
  case done =>
    rintro D Ls W2 G2 hrel OW1 OZ1
    simp only [List.length_map, List.length_range] at hrel
    obtain ⟨h0, _⟩ | ⟨_, g, rest, rfl⟩ := hrel
    · cases h0
    have hrow : Blk W2 g 5 (rowV (pwL 4) rest) := OW1.out.mem (by simp)
    have HRT := Lib.hid (roots_any fb (some ⟨g, 0, none⟩) 4 (4 + rest.length) [1, 2, 4, 8] rfl (by omega) W2 (OW1.out.field HB0.out HF.out) (by rw [← pwL_4]; exact RdB.row hrow))
    clear hrow OW OZ
    gi_wp2_with (refine own_load 0 52 (.tmp 3) rfl rfl rfl rfl (.slice (some ⟨g, 0, none⟩) 4 (4 + rest.length)) rfl naS OW1 ?_)
    refine ⟨trivial, ?_⟩
    refine (callsIn_wide.2 HRT.out).mono ?_
    rintro e W3 ⟨v, rfl, hv, hb⟩
    obtain ⟨g5, rest5, rfl, hg5, hm5, hblk⟩ := hv.row (by rw [show rootsL [1, 2, 4, 8] = genL from rfl, genL_eq]; simp)
    rw [show rootsL [1, 2, 4, 8] = genL from rfl] at hblk ⊢
    have h5 : genL.length = 5 := by rw [genL_eq]; rfl
    rw [show rootsL [1, 2, 4, 8] = genL from rfl, h5] at hm5
    rw [h5]
    have OW3 := Lib.hid (Own.add OW1.out hb (by rw [OZ1.out.1]; exact OZ1.out.2) hg5 hblk)
    obtain ⟨G3, OZ3⟩ := own_size OW3 HB0
    clear hv hb hblk OW1 OZ1 HRT
    gi_wp2_with (refine own_box 59 (.tmp 20) rfl rfl (.agg #[.pointer (some ⟨fb, 0, none⟩), .slice (some ⟨g5, 0, none⟩) 5 (5 + rest5.length)]) rfl _ rfl OW3 OZ3 ?_; clear OW3 OZ3; intro W OW3 OZ3)
    have OW4 : Own b0 w ([(g5, Obj.cells (rowV genL rest5) 5 (0, 0)), cellsO G3 59 #[.pointer (some ⟨fb, 0, none⟩), .slice (some ⟨g5, 0, none⟩) 5 (5 + rest5.length)]] ++ [D].map markO) W := by
      have h1 := OW3.out.sublist (L' := [markO D, (g5, Obj.cells (rowV genL rest5) 5 (0, 0)), cellsO G3 59 #[.pointer (some ⟨fb, 0, none⟩), .slice (some ⟨g5, 0, none⟩) 5 (5 + rest5.length)]]) (Nat.le_of_eq HB0.out) (by
        rw [List.append_assoc, List.append_assoc]
        exact List.sublist_append_right _ _)
      exact h1.perm (List.perm_append_comm (l₁ := [markO D]))
    refine leaves_own [D] _ (Nat.le_of_eq HB0.out) OW4 ?_
    intro W' hO
    exact ⟨_, by simp [results, Try.results24, go_sem], G3, g5, rest5, rfl, by rw [HB0.out]; exact hO⟩
/-- Out of the three blocks of a code. -/
theorem CodeAt.mk3 {B : Nat} {base W : World} {L : Objs} {cb fb gb k : Nat} {rest : List Value} (h : Own B base L W) (h1 : L[k]? = some (fb, Obj.cells fieldCells 68 (0, 0))) (h2 : L[k + 1]? = some (gb, Obj.cells (rowV genL rest) 5 (0, 0)))
    (h3 : L[k + 2]? = some (cb, Obj.cells #[.pointer (some ⟨fb, 0, none⟩), .slice (some ⟨gb, 0, none⟩) 5 (5 + rest.length)] 59 (0, 0))) : CodeAt W cb fb :=
  ⟨_, _, h.blk h3, h.get h1, RdB.row (h.blk h2), Nat.le_add_right _ _⟩
/-- What a call has made, beside the caller's own. -/
theorem Own.join {B : Nat} {base W W' : World} {L L2 : Objs} (h : Own B base L W) (hB : B ≤ W.heap.size) (k : Own W.heap.size W L2 W') : Own B base (L ++ L2) W' := by
  have h2 := h.step (k.below (Nat.le_refl _))
  refine ⟨?_, ?_, ?_, h2.os, h2.tape, h2.output, h2.size, fun b h1 hn => h2.far b h1 fun x hx => hn x (List.mem_append_left _ hx)⟩
  · intro x hx
    rcases List.mem_append.1 hx with hx | hx
    · exact h2.obj x hx
    · exact k.obj x hx
  · refine List.pairwise_append.2 ⟨h2.nd, k.nd, fun x hx y hy => ?_⟩
    have h3 := h.lt hx
    have h4 := k.lo y hy
    omega
  · intro x hx
    rcases List.mem_append.1 hx with hx | hx
    · exact h2.lo x hx
    · exact Nat.le_trans hB (k.lo x hx)
end Go.Proofs.Ytdgflbbffimpkaa
