/- Values of polynomials: the walk backward, and its caller. -/
import Derived.Test.YtdgflbbffimpkaaPolyG
import Derived.Test.YtdgflbbffimpkaaOwnI
import Derived.OwnWalkIn
import Derived.TacticsInMore
import Derived.LoopNIn
import Derived.LoopIn
namespace Go.Proofs.Ytdgflbbffimpkaa
open Go.RowKit Go.Shelf
set_option linter.unusedVariables false
attribute [local go_sem] Oper.semAt_some

theorem back_any (A : Option Addr) (n c : Nat) (w : World) :
    Calls Try.prog 40 #[.slice A n c] w fun e w' =>
      e = .returned (.func (.func 43) #[] #[.pointer (some ⟨w.heap.size, 0, none⟩)]) ∧ w' = w.alloc (.cells #[.slice A n c] 52) := by
  go_enter Try.func40, Try.ntmps40
  go_wp2
  go_ret
  exact ⟨rfl, rfl⟩

/-- The places from the last one down. -/
def bwL (n : Nat) : List Nat := (List.range n).map fun i => n - 1 - i
theorem bwL_len (n : Nat) : (bwL n).length = n := by simp [bwL]
theorem bwL_get {n j : Nat} (h : j < n) : (bwL n)[j]? = some (n - 1 - j) := by simp [bwL, h]
theorem RdB.blocks {w w' : World} {A : Option Addr} {p : List UInt8} (h : RdB w A p) (hs : w.heap.size ≤ w'.heap.size) (hk : ∀ b o, A = some ⟨b, o, none⟩ → w'.heap[b]? = w.heap[b]?) : RdB w' A p := by
  intro k hx
  obtain ⟨b, o, hA, hb, hc⟩ := h k hx
  exact ⟨b, o, hA, by omega, (World.cell?_of_block (a := ⟨b, o + k, none⟩) (hk b o hA)).trans hc⟩

set_option maxRecDepth 100000 in
theorem back_iter (m : Nat) (h1 : 1 ≤ m) (bs : Nat) (A : Option Addr) (n c : Nat) (p : List UInt8) (hn : p.length = n) (bn : n ≤ 100000) :
    Iter3 Fence.wide m Try.prog 43 #[.pointer (some ⟨bs, 0, none⟩)]
      (fun k : Nat => #[.int .i64 (k : Int), .int .u8 ((co p k).toNat : Int)]) (bwL n) (fun _ => False) (fun b => b = bs ∨ ∃ o, A = some ⟨b, o, none⟩ ∧ 0 < n)
      (fun W => W.cell? ⟨bs, 0, none⟩ = some (.slice A n c) ∧ RdB W A p) := by
  intro l J Jx W O hSt hJ hJx hS hO hY h0
  obtain ⟨s1, s2⟩ := hSt
  have hbs : bs < W.heap.size := by
    obtain ⟨o, ho, _⟩ := cells_of_cell s1
    exact (Array.getElem?_eq_some_iff.1 ho).1
  have HKB := Lib.hid (show ∀ b, (b = bs ∨ ∃ o, A = some ⟨b, o, none⟩ ∧ 0 < n) → b < W.heap.size by
    rintro b (rfl | ⟨o, ho, h0⟩)
    · exact hbs
    · obtain ⟨b2, o2, hA, hb, _⟩ := s2 0 (by omega)
      rw [hA] at ho
      injection ho with ho
      injection ho with e1 _
      omega)
  have HY := Lib.hid hY
  have H0 := Lib.hid h0
  have HN := Lib.hid hn
  have HS2 := Lib.hid s2
  have HLEN := Lib.hid (bwL_len n)
  have HGET := Lib.hid (fun j (hj : j < n) => bwL_get hj)
  have hw0 : IntKind.i64.wrap ((n : Int) - 1) = (n : Int) - 1 := IntWalk.i64_in _ (by omega)
  clear hY hJ hJx h0 hS hO hbs hn s2
  refine callsIn_of_wp Try.func43 rfl trivial ?_ rfl
  simp only [Try.ntmps43, List.size_toArray, List.length_cons, List.length_nil, Nat.reduceAdd, Nat.reduceSub, Array.replicate_succ, Array.replicate_zero, List.push_toArray, List.append_toArray, List.nil_append, List.cons_append]
  gi_wp2
  clear hw0
  gi_loopw [3] (fun i wr => ∃ j : Nat, ∃ O1 : Nat → Prop, j ≤ n ∧ i = .int .i64 ((n : Int) - 1 - j) ∧ J j O1 wr ∧ W.heap.size ≤ wr.heap.size ∧ ∀ b, (b = bs ∨ ∃ o, A = some ⟨b, o, none⟩ ∧ 0 < n) → wr.heap[b]? = W.heap[b]?) (fun i _ => (intOf i + 1).toNat)
  case atStart => exact ⟨0, O, by omega, by rw [show (n : Int) - 1 - ((0 : Nat) : Int) = (n : Int) - 1 from by omega], H0.out, Nat.le_refl _, fun _ _ => rfl⟩
  case round =>
    obtain ⟨j, O1, hj, rfl, hJ, hsz, hbk⟩ := hrel
    by_cases hlt : j < n
    · have e2 : wr.cell? ⟨bs, 0, none⟩ = some (.slice A n c) := by rw [World.cell?_of_block (a := ⟨bs, 0, none⟩) (hbk bs (.inl rfl))]; exact s1
      obtain ⟨k, hk⟩ : ∃ k, n - 1 - j = k := ⟨_, rfl⟩
      have hkk : (n : Int) - 1 - (j : Int) = (k : Int) := by omega
      rw [hkk]
      have hr : RdB wr A p := HS2.out.blocks hsz fun b o h => hbk b (.inr ⟨o, h, by omega⟩)
      obtain ⟨b1, o1, rfl, hc⟩ := RdB.at k hr (by have := HN.out; omega)
      obtain ⟨fn, tmps, assign, body, hy, hR⟩ := HY.out j k O1 wr (by rw [HGET.out j hlt, hk]) hJ hsz
      obtain ⟨x, hx⟩ : ∃ x, ((co p k).toNat : Int) = x := ⟨_, rfl⟩
      rw [hx] at hc hy
      have i0 : (0 : Int) ≤ (k : Int) := by omega
      have i1 : (k : Int) < (n : Int) := by omega
      have HSZ := Lib.hid (And.intro hsz hbk)
      have HKK := Lib.hid (And.intro hk hkk)
      clear hJ hsz hbk hr hx hk hkk
      gi_wp2
      refine hR.mono ?_
      rintro e W3 ⟨O3, hgr, (⟨rfl, hJ3⟩ | ⟨rfl, hJ3⟩)⟩
      · have HJ3 := Lib.hid hJ3
        have HGR := Lib.hid (And.intro hgr.size (fun b hb => hgr.keep b (Nat.lt_of_lt_of_le (HKB.out b hb) HSZ.out.1) (.inr hb)))
        have hw5 : IntKind.i64.wrap ((k : Int) - 1) = (k : Int) - 1 := IntWalk.i64_in _ (by omega)
        clear hJ3 hgr hy hR e2 hc
        gi_wp2
        go_roundw
        case rel => exact ⟨j + 1, O3, by omega, by have := HKK.out.2; go_num, HJ3.out, Nat.le_trans HSZ.out.1 HGR.out.1, fun b hb => (HGR.out.2 b hb).trans (HSZ.out.2 b hb)⟩
        case measure => simp [intOf]
      · have HJ3 := Lib.hid hJ3
        clear hJ3 hgr hy hR e2 hc
        gi_wp2
        refine bodyPost_ret (results_none rfl _ _ _) rfl ?_
        exact ⟨⟨_, rfl⟩, .inr ⟨j, by rw [HLEN.out]; exact hlt, O3, HJ3.out⟩⟩
    · obtain rfl : j = n := by omega
      have HJ := Lib.hid hJ
      rw [show (j : Int) - 1 - (j : Int) = -1 from by omega]
      clear hJ hsz hbk
      gi_wp2
      go_end0
      exact ⟨⟨_, rfl⟩, .inl ⟨O1, by rw [HLEN.out]; exact HJ.out⟩⟩

/-- The value of what stands from a place on, as it is reckoned. -/
def hv (p : List UInt8) (x : UInt8) : Nat → UInt8
  | 0 => 0
  | j + 1 => gm (hv p x j) x ^^^ co p (p.length - 1 - j)
theorem hv_spec (p : List UInt8) (x : UInt8) (j : Nat) (hj : j ≤ p.length) : gm (hv p x j) (pw x (p.length - j)) ^^^ ev (co p) (p.length - j) x = evalL p x := by
  induction j with
  | zero => rw [hv, zero_gm, UInt8.zero_xor, Nat.sub_zero]; rfl
  | succ j ih =>
    rw [← ih (by omega), hv, xor_gm]
    obtain ⟨m, hm⟩ : ∃ m, p.length - (j + 1) = m := ⟨_, rfl⟩
    have h1 : p.length - j = m + 1 := by omega
    have h2 : p.length - 1 - j = m := by omega
    have e1 : ev (co p) (m + 1) x = ev (co p) m x ^^^ gm (co p m) (pw x m) := rfl
    rw [hm, h1, h2, e1, pw, gm_assoc, gm_comm x, UInt8.xor_assoc, UInt8.xor_comm (gm (co p m) (pw x m))]
theorem hv_all (p : List UInt8) (x : UInt8) : hv p x p.length = evalL p x := by
  have h := hv_spec p x p.length (Nat.le_refl _)
  rw [Nat.sub_self, pw, gm_one, show ev (co p) 0 x = 0 from rfl, UInt8.xor_zero] at h
  exact h
theorem naF : ∀ w, (isAgg 43).run Try.prog w = .ok false w := fun _ => by kernel_rfl
set_option maxRecDepth 100000 in
set_option maxHeartbeats 1000000 in
theorem peval_any (b : Nat) (A : Option Addr) (n c : Nat) (p : List UInt8) (x : UInt8) (hn : p.length = n) (bn : n ≤ 100000) (w : World) (hF : FieldAt w b) (hx : RdB w A p) :
    Calls Try.prog 32 #[.pointer (some ⟨b, 0, none⟩), .slice A n c, .int .u8 (x.toNat : Int)] w fun e w' => e = .returned (.int .u8 ((evalL p x).toNat : Int)) ∧ Below w.heap.size w w' := by
  have HX := Lib.hid hx
  have HF := Lib.hid hF
  have HN := Lib.hid hn
  have HV := Lib.hid (show hv p x n = evalL p x by rw [← hn]; exact hv_all p x)
  have HVS := Lib.hid (fun j => (show hv p x (j + 1) = gm (hv p x j) x ^^^ co p (n - 1 - j) by rw [← hn]; rfl))
  obtain ⟨b0, hb0⟩ : ∃ b0, w.heap.size = b0 := ⟨_, rfl⟩
  have HB0 := Lib.hid hb0
  have OW := Lib.hid (Own.start b0 w)
  have OZ := Lib.hid (And.intro hb0 (Nat.le_refl b0))
  clear hb0 hx hF hn
  refine (callsIn_wide (n := 6)).1 ?_
  refine callsIn_of_wp_marks Try.func32 rfl trivial ?_ rfl
  simp only [Try.ntmps32, List.size_toArray, List.length_cons, List.length_nil, Nat.reduceAdd, Nat.reduceSub, Array.replicate_succ, Array.replicate_zero, List.push_toArray, List.append_toArray, List.nil_append, List.cons_append]
  gi_wp2_with (first
    | (refine own_box 43 (.tmp 0) rfl rfl (.pointer (some ⟨b, 0, none⟩)) rfl _ rfl OW OZ ?_; clear OW OZ; intro W OW OZ)
    | (refine own_box 5 (.tmp 2) rfl rfl (.int .u8 (x.toNat : Int)) rfl _ rfl OW OZ ?_; clear OW OZ; intro W OW OZ)
    | (refine own_alloc 5 rfl rfl _ alU8 OW OZ ?_; clear OW OZ; intro W OW OZ)
    | (refine own_store 2 5 (.tmp 7) (.const (.int .u8 0)) rfl rfl rfl rfl (.int .u8 0) rfl #[.int .u8 0] rfl (by decide) rfl szU8 _ rfl OW OZ ?_; clear OW OZ; intro W OW OZ))
  refine ⟨trivial, ?_⟩
  refine (callsIn_wide.2 (back_any _ _ _ _)).mono ?_
  rintro e U ⟨rfl, hU⟩
  rw [OZ.out.1]
  have hOU : Own b0 w [cellsO b0 43 #[.pointer (some ⟨b, 0, none⟩)], cellsO (b0 + 1) 5 #[.int .u8 (x.toNat : Int)], cellsO (b0 + 1 + 1) 5 #[.int .u8 0], cellsO (b0 + 1 + 1 + 1) 52 #[.slice A n c]] U := by
    have h1 := OW.out.alloc (by rw [OZ.out.1]; exact OZ.out.2) (.cells #[Value.slice A n c] 52)
    rw [← hU, OZ.out.1] at h1
    exact h1
  have hZU : U.heap.size = b0 + 1 + 1 + 1 + 1 ∧ b0 ≤ b0 + 1 + 1 + 1 + 1 := ⟨by rw [hU]; simp [OZ.out.1], by omega⟩
  clear OW OZ hU
  have OW := Lib.hid hOU
  have OZ := Lib.hid hZU
  clear hOU hZU
  gi_wp2
  refine own_iterB (n := 6) rfl (by omega) (gf := 43) (lb := #[.pointer (some ⟨b0 + 1 + 1 + 1, 0, none⟩)]) rfl trivial (enters_of Try.func43 (by kernel_rfl) rfl)
    (back_iter (6 - 1) (by omega) (b0 + 1 + 1 + 1) A n c p HN.out bn) HB0.out
    (fun i Ls => Ls = [cellsO b0 43 #[.pointer (some ⟨b, 0, none⟩)], cellsO (b0 + 1) 5 #[.int .u8 (x.toNat : Int)], cellsO (b0 + 1 + 1) 5 #[vU (hv p x i)], cellsO (b0 + 1 + 1 + 1) 52 #[.slice A n c]])
    (fun _ _ _ => False) rfl OW OZ ?hSt ?hK (fun _ => rfl) ?act1 ?assign ?body ?done ?stop
  case hSt =>
    intro W' hW'
    have h1 := OW.out.blk (k := 3) rfl
    refine ⟨by rw [World.cell?_of_block (a := ⟨b0 + 1 + 1 + 1, 0, none⟩) (hW' _ h1.lt)]; exact h1.cell 0, ?_⟩
    rcases Nat.eq_zero_or_pos n with h0 | h0
    · rw [List.length_eq_zero_iff.1 (HN.out.trans h0)]
      exact RdB.nil
    · have hr := OW.out.rd HB0.out HX.out
      have hlt : ∀ b, b < U.heap.size → b < W'.heap.size := fun b hb => by
        have h2 := hW' b hb
        rw [Array.getElem?_eq_getElem hb] at h2
        exact (Array.getElem?_eq_some_iff.1 h2).1
      refine hr.blocks ?_ fun b o h => ?_
      · apply Nat.le_of_not_lt
        intro h
        exact absurd (hlt _ h) (by omega)
      · obtain ⟨b2, o2, hA, hb2, _⟩ := hr 0 (by have := HN.out; omega)
        rw [hA] at h
        injection h with h
        injection h with e1 _
        exact hW' b (by omega)
  case hK =>
    rintro b1 (rfl | ⟨o, h, h0⟩)
    · exact .inr ⟨cellsO (b0 + 1 + 1 + 1) 52 #[.slice A n c], by simp, rfl⟩
    · obtain ⟨b2, o2, hA, hb2, _⟩ := HX.out 0 (by have := HN.out; omega)
      rw [hA] at h
      injection h with h
      injection h with e1 _
      exact .inl (by rw [← HB0.out]; omega)
  case assign =>
    intro l x W K hK
    gi_wp2
    exact hK
  case body =>
    rintro l i k Ls W1 G1 hx rfl OW1 OW2 OZ1 OM
    have hi : i < n := by have := (List.getElem?_eq_some_iff.1 hx).1; rw [bwL_len] at this; exact this
    rw [bwL_get hi] at hx
    obtain rfl : n - 1 - i = k := Option.some.inj hx
    have hst := HVS.out i
    obtain ⟨s, hs⟩ : ∃ s, hv p x i = s := ⟨_, rfl⟩
    obtain ⟨y, hy⟩ : ∃ y, co p (n - 1 - i) = y := ⟨_, rfl⟩
    rw [hs, hy] at hst
    rw [hs] at OW1 OW2
    rw [hy]
    have HM := Lib.hid (fmul_any b s x W1 (OW1.out.field HB0.out HF.out))
    have hxor := u8_xorP (gm s x) y
    obtain ⟨g, hg⟩ : ∃ g, gm s x = g := ⟨_, rfl⟩
    rw [hg] at HM hst hxor
    obtain ⟨u, hu⟩ : ∃ u, g ^^^ y = u := ⟨_, rfl⟩
    rw [hu] at hst hxor
    have HST := Lib.hid hst
    clear hs hy hg hu hst hx OW1
    gi_wp2_with (first
      | (refine own_load 0 43 (.tmp 3) rfl rfl rfl rfl (.pointer (some ⟨b, 0, none⟩)) rfl naF OW2 ?_)
      | (refine own_load 2 5 (.tmp 7) rfl rfl rfl rfl (vU s) rfl naU8 OW2 ?_)
      | (refine own_load 1 5 (.tmp 5) rfl rfl rfl rfl (vU x) rfl naU8 OW2 ?_))
    refine ⟨trivial, ?_⟩
    refine (CallsIn.inRound l (callsIn_wide.2 HM.out)).mono ?_
    rintro e w2 ⟨rfl, q, hq⟩
    have OW3 := Lib.hid (OW2.out.drewN q)
    have OZ3 := Lib.hid (show w2.heap.size = G1 ∧ b0 ≤ G1 by rw [hq]; exact OZ1.out)
    rw [← hq] at OW3
    clear OW2 HM hq OZ
    gi_wp2_with (refine own_store 2 5 (.tmp 7) (.tmp 19) rfl rfl rfl rfl (vU u) rfl #[vU u] rfl (Nat.le_of_ble_eq_true rfl) rfl szU8 _ rfl OW3 OZ3 ?_; clear OW3 OZ3; intro W OW3 OZ3)
    refine OwnNext.mkB (E := []) (L1 := [cellsO b0 43 #[.pointer (some ⟨b, 0, none⟩)], cellsO (b0 + 1) 5 #[.int .u8 (x.toNat : Int)], cellsO (b0 + 1 + 1) 5 #[vU u], cellsO (b0 + 1 + 1 + 1) 52 #[.slice A n c]]) OW3.out (by simp) rfl (by rw [HST.out]) ?_ ?_
    · rintro b1 (rfl | ⟨o, h, h0⟩)
      · exact .inr ⟨cellsO (b0 + 1 + 1 + 1) 52 #[.slice A n c], by simp, by simp, rfl⟩
      · obtain ⟨b2, o2, hA, hb2, _⟩ := HX.out 0 (by have := HN.out; omega)
        rw [hA] at h
        injection h with h
        injection h with e1 _
        exact .inl (by rw [← HB0.out]; omega)
    · intro y hy
      simp only [List.append_nil, List.mem_cons, List.not_mem_nil, or_false] at hy
      rcases hy with rfl | rfl | rfl | rfl <;> exact .inl rfl
  case stop => rintro D c' i Ls W2 G2 hi h; exact h.elim
  case done =>
    rintro D Ls W2 G2 rfl OW1 OZ1
    rw [bwL_len, HV.out] at OW1
    clear OW OZ
    gi_wp2_with (refine own_load 2 5 (.tmp 7) rfl rfl rfl rfl (vU (evalL p x)) rfl naU8 OW1 ?_)
    refine leaves_own [D] _ (Nat.le_of_eq HB0.out) OW1.out ?_
    intro W' hO
    exact ⟨_, by simp [results, Try.results32, go_sem], rfl, hO.done HB0⟩
end Go.Proofs.Ytdgflbbffimpkaa
