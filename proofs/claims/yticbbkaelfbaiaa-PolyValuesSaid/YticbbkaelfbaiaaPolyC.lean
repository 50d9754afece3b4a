/- Multiples and sums of polynomials: walks. -/
import Derived.Test.YticbbkaelfbaiaaPolyB
import Derived.Test.YticbbkaelfbaiaaQTail
import Derived.TacticsInMore
import Derived.LoopNIn
import Derived.LoopIn
namespace Go.Proofs.Yticbbkaelfbaiaa
open Go.RowKit Go.Shelf
set_option linter.unusedVariables false
attribute [local go_sem] Oper.semAt_some

section
variable {F : Fence} {n : Nat} {P : Program} {ops : Array Oper} {Q : Exit → Act → World → Prop} {a : Act} {W W' : World} {rest : List Oper} {o : Oper} {B G : Nat} {base : World} {L : Objs}
/-- A new slice. -/
theorem own_make [FreeF F] (T E : TypeId) (x : Operand) (ho : o.op = .makeSlice T x x) (hw : Region.wanted o (yielded ops a.tmps) = true) (m : Nat) (hx : a.eval x = .int .i64 (m : Int)) (cs : Array Value)
    (hr : ∀ w : World, (Instr.makeSlice T (.int .i64 (m : Int)) (.int .i64 (m : Int))).run P w = .ok (.slice (some ⟨w.heap.size, 0, none⟩) m m) (w.alloc (.cells cs E)))
    (OW : Hid (Own B base L W)) (OZ : Hid (W.heap.size = G ∧ B ≤ G)) (h : ∀ W2 : World, Hid (Own B base (L ++ [(G, .cells cs E (0, 0))]) W2) → Hid (W2.heap.size = G + 1 ∧ B ≤ G + 1) → wpListIn F n P ops Q rest (a.put o.dst (.slice (some ⟨G, 0, none⟩) m m)) W2) : wpListIn F n P ops Q (o :: rest) a W := by
  obtain ⟨z1, z2⟩ := OZ
  subst z1
  refine wpListIn_val hw (by unfold noDefer; rw [ho]) (.slice (some ⟨W.heap.size, 0, none⟩) m m) (W' := W.alloc (.cells cs E)) (by unfold execOp; simp only [ho, hx, Sem.run_bind, hr, Result.andThen_ok, Sem.run_pure]) ?_
  exact h _ (OW.alloc z2 _) ⟨by simp, by omega⟩
end
theorem makeRow (n : Nat) (hn : n ≤ 281474976710656) (w : World) : (Instr.makeSlice 22 (.int .i64 (n : Int)) (.int .i64 (n : Int))).run Try.prog w = .ok (.slice (some ⟨w.heap.size, 0, none⟩) n n) (w.alloc (.cells (rowV (List.replicate n 0) []) 5)) := by
  rw [← zeroB_row]; exact make_bytes n hn w
theorem ofF_zero (n : Nat) (f : Nat → UInt8) (h : ∀ i, i < n → f i = 0) : ofF n f = List.replicate n 0 := by
  refine list_ext (by rw [ofF_len, List.length_replicate]) fun i hi => ?_
  rw [ofF_len] at hi
  rw [co_ofF, if_pos hi, h i hi]
  simp [co, hi]
theorem ofF_congr {n : Nat} {f g : Nat → UInt8} (h : ∀ i, i < n → f i = g i) : ofF n f = ofF n g := by
  unfold ofF
  exact List.map_congr_left fun i hi => h i (List.mem_range.1 hi)
theorem co_set {xs : List UInt8} {k i : Nat} {v : UInt8} (hk : k < xs.length) : co (xs.set k v) i = if i = k then v else co xs i := by
  unfold co
  rw [List.getD_eq_getElem?_getD, List.getD_eq_getElem?_getD, List.getElem?_set]
  by_cases e : i = k
  · subst e; simp [hk]
  · rw [if_neg (Ne.symm e), if_neg e]


/-- The multiples of the first k. -/
def scTo (p : List UInt8) (a : UInt8) (k : Nat) : List UInt8 := ofF p.length fun i => if i < k then gm a (co p i) else 0
theorem scTo_len (p : List UInt8) (a : UInt8) (k : Nat) : (scTo p a k).length = p.length := ofF_len _ _
theorem scTo_succ (p : List UInt8) (a : UInt8) (k : Nat) : (scTo p a k).set k (gm a (co p k)) = scTo p a (k + 1) :=
  ofF_succ_set _ _ _ _ _ fun i _ => by
    by_cases e : i = k
    · subst e; rw [if_pos (by omega), if_pos rfl]
    · rw [if_neg e]
      by_cases h : i < k
      · rw [if_pos (by omega), if_pos h]
      · rw [if_neg (by omega), if_neg h]
theorem scTo_all (p : List UInt8) (a : UInt8) : trimL (scTo p a p.length) = scaleL p a := by
  unfold scaleL scTo
  rw [ofF_congr fun i hi => if_pos hi]

set_option maxRecDepth 100000 in
theorem scale_any (b : Nat) (A : Option Addr) (n c : Nat) (p : List UInt8) (a : UInt8) (hn : p.length = n) (bn : n ≤ 100000) (w : World) (hF : FieldAt w b) (hx : RdB w A p) :
    Calls Try.prog 24 #[.pointer (some ⟨b, 0, none⟩), .slice A n c, .int .u8 (a.toNat : Int)] w fun e w' => ∃ v, e = .returned v ∧ Fr w.heap.size w' v (scaleL p a) ∧ Below w.heap.size w w' := by
  have HX := Lib.hid hx
  have HF := Lib.hid hF
  have HN := Lib.hid hn
  have i3 : (0 : Int) ≤ (n : Int) := by omega
  clear hx hF hn
  obtain ⟨b0, hb0⟩ : ∃ b0, w.heap.size = b0 := ⟨_, rfl⟩
  have HB0 := Lib.hid hb0
  have OW := Lib.hid (Own.start b0 w)
  have OZ := Lib.hid (And.intro hb0 (Nat.le_refl b0))
  clear hb0
  refine (callsIn_wide (n := 6)).1 ?_
  refine callsIn_of_wp_marks Try.func24 rfl trivial ?_ rfl
  simp only [Try.ntmps24, List.size_toArray, List.length_cons, List.length_nil, Nat.reduceAdd, Nat.reduceSub, Array.replicate_succ, Array.replicate_zero, List.push_toArray, List.append_toArray, List.nil_append, List.cons_append]
  gi_wp2_with (refine own_make 22 5 (.tmp 11) rfl rfl n rfl _ (makeRow n (by omega)) OW OZ ?_; clear OW OZ; intro W OW OZ)
  gi_loopw [15] (fun i wr => ∃ k : Nat, k ≤ n ∧ i = .int .i64 k ∧ Own b0 w [cellsO b0 5 (rowV (scTo p a k) [])] wr) (fun i _ => n - (intOf i).toNat)
  case atStart => exact ⟨0, Nat.zero_le _, rfl, by rw [show scTo p a 0 = List.replicate n 0 by rw [← HN.out]; exact ofF_zero _ _ (fun i _ => if_neg (by omega))]; exact OW.out⟩
  case round =>
    obtain ⟨k, hk, rfl, hO⟩ := hrel
    clear OW OZ
    have OW := Lib.hid hO
    obtain ⟨G, OZ⟩ := own_size OW HB0
    clear hO
    by_cases h1 : k < n
    · have i0 : (0 : Int) ≤ (k : Int) := by omega
      have i1 : (k : Int) < (n : Int) := by omega
      obtain ⟨b1, o1, rfl, hc⟩ := RdB.at k (OW.out.rd HB0.out HX.out) (by have := HN.out; omega)
      have HM := Lib.hid (fmul_any b a (co p k) wr (OW.out.field HB0.out HF.out))
      have HS := Lib.hid (show (rowV (scTo p a k) []).setIfInBounds k (vU (gm a (co p k))) = rowV (scTo p a (k + 1)) [] by rw [rowV_set (by rw [scTo_len, HN.out]; exact h1), scTo_succ])
      have HL := Lib.hid (show k < (rowV (scTo p a k) []).size by rw [rowV_size, scTo_len, HN.out]; show k < n + 0; omega)
      obtain ⟨x, hx⟩ : ∃ x, co p k = x := ⟨_, rfl⟩
      rw [hx] at hc HM HS
      obtain ⟨g, hg⟩ : ∃ g, gm a x = g := ⟨_, rfl⟩
      rw [hg] at HM HS
      clear hx hg
      gi_wp2_with fail
      refine ⟨trivial, ?_⟩
      refine (callsIn_wide.2 HM.out).mono ?_
      rintro e w2 ⟨rfl, q, rfl⟩
      have OW2 := Lib.hid (OW.out.drewN q)
      clear OW OZ HM
      have OW := OW2
      obtain ⟨G2, OZ⟩ := own_size OW HB0
      clear OW2
      gi_wp2_with (refine own_store 0 5 (.tmp 26) (.tmp 25) rfl rfl rfl rfl (vU g) rfl _ HS.out HL.out rfl szU8 _ rfl OW OZ ?_; clear OW OZ; intro W OW OZ)
      go_roundw
      case rel => exact ⟨k + 1, by omega, by go_num, OW.out⟩
      case measure => simp [intOf]; omega
    · obtain rfl : k = n := by omega
      have h2 := OW.out.blk (k := 0) rfl
      have HT := Lib.hid (trim_any (some ⟨b0, 0, none⟩) k k (scTo p a k) (by rw [scTo_len, HN.out]) (Nat.le_refl _) bn wr (RdB.row h2))
      rw [show trimL (scTo p a k) = scaleL p a by rw [← HN.out]; exact scTo_all p a] at HT
      have HB := Lib.hid (OW.out.done HB0)
      clear h2
      gi_wp2_with fail
      refine ⟨trivial, ?_⟩
      refine (callsIn_wide.2 HT.out).mono ?_
      rintro e w2 ⟨v, rfl, h1, h2⟩
      gi_wp2
      exact ⟨_, by simp [results, Try.results24, go_sem], _, rfl, h1.lower HB.out.size, HB.out.trans (h2.mono HB.out.size)⟩
end Go.Proofs.Yticbbkaelfbaiaa
