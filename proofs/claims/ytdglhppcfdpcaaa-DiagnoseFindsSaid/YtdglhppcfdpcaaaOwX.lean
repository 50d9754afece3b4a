/- Several texts in one: Held Own OwnI OwnP. -/
import Derived.Test.YtdglhppcfdpcaaaRfX
import Derived.Shelf.Abstract
import Derived.Below
import Derived.Laws.Small
import Derived.Laws.Rows
import Derived.Test.YtdglhppcfdpcaaaRwX
import Derived.Lib.Hide
namespace Go.Proofs.Ytdglhppcfdpcaaa
open Go Go.RowKit Go.Shelf

/-- The values xs put into the slots of the operations. -/
def putsH (xs : Nat → Value) : List Oper → Nat → Act → Act
  | [], _, a => a
  | o :: os, k, a => putsH xs os (k + 1) (a.put o.dst (xs k))
def apartS (x y : Option Tmp) : Bool := match x, y with | some a, some b => a != b | _, _ => true
def slotsB : List Oper → Bool
  | [] => true
  | o :: os => (os.all fun p => apartS o.dst p.dst) && slotsB os
theorem apartS_spec {x y : Option Tmp} (h : apartS x y = true) : ∀ d, x = some d → y ≠ some d := by
  rintro d rfl rfl
  simp [apartS] at h
theorem put_put (a : Act) (x : Option Tmp) (v u : Value) : (a.put x v).put x u = a.put x u := by
  cases x with
  | none => rfl
  | some d => simp [Act.put]
theorem putsH_congr {xs ys : Nat → Value} : ∀ (l : List Oper) (k : Nat) (a : Act), (∀ j, k ≤ j → j < k + l.length → xs j = ys j) → putsH xs l k a = putsH ys l k a
  | [], _, _, _ => rfl
  | o :: os, k, a, h => by
    unfold putsH
    rw [h k (Nat.le_refl _) (by rw [List.length_cons]; omega)]
    exact putsH_congr os (k + 1) _ fun j h1 h2 => h j (by omega) (by rw [List.length_cons]; omega)
theorem putsH_put {xs : Nat → Value} (x : Option Tmp) (v : Value) : ∀ (l : List Oper) (k : Nat) (a : Act), (l.all fun p => apartS x p.dst) = true → (putsH xs l k a).put x v = putsH xs l k (a.put x v)
  | [], _, _, _ => rfl
  | o :: os, k, a, h => by
    simp only [List.all_cons, Bool.and_eq_true] at h
    unfold putsH
    rw [putsH_put x v os (k + 1) _ h.2, Act.put_comm a v (xs k) (apartS_spec h.1)]
theorem putsH_set {xs : Nat → Value} (v : Value) : ∀ (l : List Oper) (k : Nat) (a : Act) (i : Nat) (o : Oper), slotsB l = true → l[i]? = some o →
    (putsH xs l k a).put o.dst v = putsH (fun j => if j = k + i then v else xs j) l k a
  | [], _, _, i, _, _, h => by simp at h
  | p :: os, k, a, 0, o, hs, h => by
    simp only [slotsB, Bool.and_eq_true] at hs
    simp only [List.getElem?_cons_zero, Option.some.injEq] at h
    subst h
    unfold putsH
    rw [putsH_put _ _ _ _ _ hs.1, put_put, if_pos (show k = k + 0 from rfl)]
    exact putsH_congr os (k + 1) _ fun j h1 _ => by rw [if_neg (by omega)]
  | p :: os, k, a, i + 1, o, hs, h => by
    simp only [slotsB, Bool.and_eq_true] at hs
    rw [List.getElem?_cons_succ] at h
    unfold putsH
    rw [putsH_set v os (k + 1) _ i o hs.2 h, if_neg (by omega)]
    exact putsH_congr os (k + 1) _ fun j _ _ => by rw [show k + 1 + i = k + (i + 1) by omega]
/-- What lies in the slots as the region begins. -/
def firstX (l : List Oper) (a : Act) (j : Nat) : Value := match (l[j]?).bind (·.dst) with | some d => a.tmps.getD d undef | none => undef
theorem put_same (a : Act) (x : Option Tmp) (v : Value) (h : ∀ d, x = some d → a.tmps.getD d undef = v) : a.put x v = a := by
  cases x with
  | none => rfl
  | some d =>
    have := h d rfl
    subst this
    have e : a.tmps.setIfInBounds d (a.tmps.getD d undef) = a.tmps := by
      rcases Nat.lt_or_ge d a.tmps.size with h | h
      · apply Array.ext_getElem?
        intro i
        rw [Array.getElem?_setIfInBounds]
        split
        · rename_i e; subst e
          simp [h]
        · rfl
      · exact Array.setIfInBounds_eq_of_size_le h
    show ({ a with tmps := a.tmps.setIfInBounds d (a.tmps.getD d undef) } : Act) = a
    rw [e]
theorem putsH_first {xs : Nat → Value} : ∀ (l : List Oper) (k : Nat) (a : Act), (∀ i o d, l[i]? = some o → o.dst = some d → xs (k + i) = a.tmps.getD d undef) → putsH xs l k a = a
  | [], _, _, _ => rfl
  | o :: os, k, a, h => by
    unfold putsH
    rw [put_same a o.dst (xs k) (fun d hd => (h 0 o d rfl hd).symm)]
    exact putsH_first os (k + 1) a fun i p d hp hd => by rw [← h (i + 1) p d (by simpa using hp) hd]; congr 1; omega

/-- Each dependency is waited for, or is one of what is waited for. -/
def depsB (md : Region.Mode) (ops : Array Oper) (N : Nat) (D : Nat → List Nat) : Bool :=
  (List.range N).all fun i => (D i).all fun j => decide (j < N) && ((ops[i]?).map fun o => o.after.any fun e => Region.binds md e && (e.on == j || (decide (e.on < N) && (D e.on).contains j))).getD false
def cntH (listed : Array Bool) : Nat → Nat
  | 0 => 0
  | k + 1 => cntH listed k + if listed.getD k true = true then 0 else 1
theorem cntH_ge {listed : Array Bool} {i : Nat} : ∀ k, k ≤ i → cntH (listed.setIfInBounds i true) k = cntH listed k
  | 0, _ => rfl
  | k + 1, h => by
    unfold cntH
    rw [cntH_ge k (by omega), getD_set_ne true (by omega)]
theorem cntH_set {listed : Array Bool} {i : Nat} (hi : listed.getD i true = false) : ∀ k, i < k → cntH (listed.setIfInBounds i true) k + 1 = cntH listed k
  | 0, h => by omega
  | k + 1, h => by
    unfold cntH
    by_cases e : i = k
    · subst e
      have hs : (listed.setIfInBounds i true).getD i true = true := by
        rcases Nat.lt_or_ge i listed.size with h' | h'
        · simp [h']
        · simp [Array.getElem?_eq_none h'] at hi
      rw [cntH_ge i (Nat.le_refl _), hi, hs]
      simp
    · rw [getD_set_ne true e, ← cntH_set hi k (by omega)]
      omega
theorem cntH_zero {listed : Array Bool} : ∀ k, cntH listed k = 0 → ∀ i, i < k → listed.getD i true = true
  | 0, _, _, hi => by omega
  | k + 1, h, i, hi => by
    unfold cntH at h
    by_cases e : i = k
    · subst e
      by_cases hl : listed.getD i true = true
      · exact hl
      · rw [if_neg hl] at h; omega
    · exact cntH_zero k (by omega) i (by omega)

section
variable {F : Fence} {n : Nat} {P : Program}

/-- One operation, at any world that the region may have reached. -/
structure HeldOp (F : Fence) (n : Nat) (P : Program) (L : List Oper) (N : Nat) (Q : Exit → Act → World → Prop) (V : Nat → Value → World → Prop) (R : World → World → Prop) (D : Nat → List Nat) (a : Act) (w : World) (k : Nat) (o : Oper) : Prop where
  out : ∀ (xs : Nat → Value) (w' : World), (∀ j ∈ D k, V j (xs j) w') → R w w' → ∀ K : Value → World → Prop, (∀ v w'', V k v w'' → R w' w'' → K v w'') →
    if Region.wanted o (yielded L.toArray (putsH xs (L.take N) 0 a).tmps) = true then o.wpIn F n P (putsH xs (L.take N) 0 a) w' (fun a'' w'' => ∃ v, a'' = (putsH xs (L.take N) 0 a).put o.dst v ∧ K v w'') Q
    else (∀ f, o.about P w' (putsH xs (L.take N) 0 a).eval = some f → F.fn f) ∧ K undef w'
def HeldOps (F : Fence) (n : Nat) (P : Program) (L : List Oper) (N : Nat) (Q : Exit → Act → World → Prop) (V : Nat → Value → World → Prop) (R : World → World → Prop) (D : Nat → List Nat) (a : Act) (w : World) : Nat → List Oper → Prop
  | _, [] => True
  | k, o :: os => HeldOp F n P L N Q V R D a w k o ∧ HeldOps F n P L N Q V R D a w (k + 1) os
theorem HeldOps.get {L : List Oper} {N : Nat} {Q : Exit → Act → World → Prop} {V : Nat → Value → World → Prop} {R : World → World → Prop} {D : Nat → List Nat} {a : Act} {w : World} : ∀ (l : List Oper) (k : Nat), HeldOps F n P L N Q V R D a w k l → ∀ i o, l[i]? = some o → HeldOp F n P L N Q V R D a w (k + i) o
  | [], _, _, i, _, h => by simp at h
  | p :: os, k, h, 0, o, ho => by
    simp only [List.getElem?_cons_zero, Option.some.injEq] at ho
    subst ho
    exact h.1
  | p :: os, k, h, i + 1, o, ho => by
    rw [List.getElem?_cons_succ] at ho
    have := HeldOps.get os (k + 1) h.2 i o ho
    rwa [show k + 1 + i = k + (i + 1) by omega] at this

def heldB (N : Nat) (D : Nat → List Nat) (L : List Oper) : Bool :=
  (decide (N = L.length) || (Region.sinkB .any L.toArray N && decide (N < L.length))) && Region.chainB .any L.toArray N && backB .any L.toArray N && backB .any L.toArray 0 && slotsB (L.take N) && depsB .any L.toArray N D

theorem wpAnyIn_held {N : Nat} {L : List Oper} {Q : Exit → Act → World → Prop} {V : Nat → Value → World → Prop} {R : World → World → Prop} {D : Nat → List Nat} {a : Act} {w : World} (hNl : N ≤ L.length)
    (hs : N = L.length ∨ (Region.sinkB .any L.toArray N = true ∧ N < L.length)) (hc : Region.chainB .any L.toArray N = true) (hb : backB .any L.toArray N = true) (hb0 : backB .any L.toArray 0 = true) (hsl : slotsB (L.take N) = true) (hD : depsB .any L.toArray N D = true)
    (hRt : ∀ x y z, R x y → R y z → R x z) (hV : ∀ i v x y, V i v x → R x y → V i v y)
    (hops : HeldOps F n P L N Q V R D a w 0 (L.take N)) (hend : ∀ xs w', (∀ i, i < N → V i (xs i) w') → R w w' → wpListIn F n P L.toArray Q (L.drop N) (putsH xs (L.take N) 0 a) w') :
    ∀ (c fuel : Nat) (listed : Array Bool) (xs : Nat → Value) (w' : World), cntH listed N = c → c + (L.length - N) ≤ fuel → HeadInv .any L.toArray N listed →
      (∀ i, i < N → listed.getD i false = true → V i (xs i) w' ∧ ∀ j ∈ D i, listed.getD j false = true) → R w w' → wpAnyIn F n P .any L.toArray Q fuel listed (putsH xs (L.take N) 0 a) w'
  | 0, fuel, listed, xs, w', hcnt, hf, inv, hk, hR => by
    have hall := cntH_zero N hcnt
    have hall2 : ∀ i, i < N → listed.getD i false = true := by
      intro i hi
      have h2 : i < listed.size := by rw [inv.size, List.size_toArray]; omega
      have := hall i hi
      simp [h2] at this ⊢
      exact this
    exact wpAnyIn_chain hc hb (L.length - N) N fuel listed _ w' (by rw [List.size_toArray]; omega) (Nat.le_refl _) (by omega) inv.size hall hall2 inv.tail (by simpa using hend xs w' (fun i hi => (hk i hi (hall2 i hi)).1) hR)
  | c + 1, fuel, listed, xs, w', hcnt, hf, inv, hk, hR => by
    obtain ⟨f, rfl⟩ : ∃ f, fuel = f + 1 := ⟨fuel - 1, by omega⟩
    have hun : ∃ i, i < N ∧ listed.getD i true = false := by
      apply Classical.byContradiction
      intro hno
      have hall : ∀ i, i < N → listed.getD i true = true := fun i hi => by
        cases hl : listed.getD i true with
        | true => rfl
        | false => exact (hno ⟨i, hi, hl⟩).elim
      have : ∀ k, k ≤ N → cntH listed k = 0 := by
        intro k
        induction k with
        | zero => intro _; rfl
        | succ k ih => intro h; unfold cntH; rw [ih (by omega), hall k (by omega)]; rfl
      rw [this N (Nat.le_refl _)] at hcnt
      omega
    obtain ⟨i0, hi0, hu0⟩ := hun
    have some : Region.ready .any L.toArray listed = [] → ∀ d i, i = d → i < N → listed.getD i true = true := by
      intro hnil d
      induction d using Nat.strongRecOn with
      | _ d ih =>
        rintro i rfl hi
        cases hl : listed.getD i true with
        | true => rfl
        | false =>
          exfalso
          have hilt : i < L.toArray.size := by rw [List.size_toArray]; omega
          have hok : L.toArray[i]? = some L.toArray[i] := Array.getElem?_eq_getElem hilt
          have hB := List.all_eq_true.1 hb0 i (List.mem_range.2 hilt)
          rw [hok] at hB
          simp only [Bool.or_eq_true, decide_eq_true_eq, Option.map_some, Option.getD_some, Nat.not_lt_zero, false_or] at hB
          have : i ∈ Region.ready .any L.toArray listed := mem_ready.2 ⟨hl, _, hok, fun e he hbd => by
            have h2 := Array.all_eq_true'.1 hB e he
            rw [hbd] at h2
            have h3 : e.on < i := by simpa using h2
            have h4 := ih e.on h3 e.on rfl (by omega)
            have h5 : e.on < listed.size := by rw [inv.size]; omega
            rw [Array.getD_eq_getD_getElem?, Array.getElem?_eq_getElem h5] at h4 ⊢
            exact h4⟩
          rw [hnil] at this; cases this
    refine ⟨fun hnil => (by have := some hnil i0 i0 rfl hi0; rw [hu0] at this; cases this), fun i hi => ?_⟩
    have hiN : i < N := by
      rcases Nat.lt_or_ge i N with h1 | h1
      · exact h1
      · exfalso
        rcases hs with hs | ⟨hs, hlt⟩
        · obtain ⟨_, o, ho, _⟩ := mem_ready.1 hi
          have := (Array.getElem?_eq_some_iff.1 ho).1
          rw [List.size_toArray] at this
          omega
        · exact tail_waits hs hc (by rw [List.size_toArray]; exact hlt) inv _ i0 rfl hi0 hu0 i h1 hi
    obtain ⟨hl, o, ho, hall⟩ := mem_ready.1 hi
    have hol : (L.take N)[i]? = Option.some o := by rw [List.getElem?_take_of_lt hiN, ← List.getElem?_toArray]; exact ho
    have hDi : ∀ j ∈ D i, listed.getD j false = true := by
      intro j hj
      have h1 := List.all_eq_true.1 (List.all_eq_true.1 hD i (List.mem_range.2 hiN)) j hj
      rw [ho] at h1
      simp only [Option.map_some, Option.getD_some, Bool.and_eq_true, decide_eq_true_eq] at h1
      obtain ⟨e, he, h2⟩ := Array.any_eq_true'.1 h1.2
      simp only [Bool.and_eq_true, Bool.or_eq_true, beq_iff_eq, decide_eq_true_eq] at h2
      have h3 := hall e he h2.1
      rcases h2.2 with h4 | ⟨h4, h5⟩
      · rw [← h4]; exact h3
      · exact (hk e.on h4 h3).2 j (by simpa using h5)
    have hDN : ∀ j ∈ D i, j < N := by
      intro j hj
      have h1 := List.all_eq_true.1 (List.all_eq_true.1 hD i (List.mem_range.2 hiN)) j hj
      simp only [Bool.and_eq_true, decide_eq_true_eq] at h1
      exact h1.1
    have hop := HeldOps.get (L.take N) 0 hops i o hol
    rw [Nat.zero_add] at hop
    have next : ∀ v w'', V i v w'' → R w' w'' → wpAnyIn F n P .any L.toArray Q f (listed.setIfInBounds i true) ((putsH xs (L.take N) 0 a).put o.dst v) w'' := by
      intro v w'' hv hR2
      rw [putsH_set v _ 0 a i o hsl hol, Nat.zero_add]
      refine wpAnyIn_held hNl hs hc hb hb0 hsl hD hRt hV hops hend c f _ _ w'' (by have := cntH_set hl N hiN; omega) (by omega) (inv.set hi hiN) ?_ (hRt _ _ _ hR hR2)
      intro j hj hlj
      by_cases e : j = i
      · subst e
        rw [if_pos rfl]
        exact ⟨hv, fun j' hj' => getD_set_true (hDi j' hj')⟩
      · rw [if_neg e]
        rw [getD_set_ne false (Ne.symm e)] at hlj
        obtain ⟨h1, h2⟩ := hk j hj hlj
        exact ⟨hV _ _ _ _ h1 hR2, fun j' hj' => getD_set_true (h2 j' hj')⟩
    have hst := hop.out xs w' (fun j hj => (hk j (hDN j hj) (hDi j hj)).1) hR (fun v w'' => wpAnyIn F n P .any L.toArray Q f (listed.setIfInBounds i true) ((putsH xs (L.take N) 0 a).put o.dst v) w'') next
    unfold wpOpIn
    simp only [ho]
    split
    · rename_i hw
      rw [if_pos hw] at hst
      exact Oper.wpIn_mono (fun a'' w'' ⟨v, e, h⟩ => by rw [e]; exact h) hst
    · rename_i hw
      rw [if_neg hw] at hst
      exact hst

theorem wpIn_region_held (N : Nat) (D : Nat → List Nat) (V : Nat → Value → World → Prop) (R : World → World → Prop) {id : Nat} {Q : Exit → Act → World → Prop} {a : Act} {w : World} {L : List Oper} (hm : P.follows .mixedOrders = true) (hok : heldB N D L = true)
    (hRt : ∀ x y z, R x y → R y z → R x z) (hRd : R w w.drew) (hV : ∀ i v x y, V i v x → R x y → V i v y)
    (hops : HeldOps F n P L N Q V R D a w 0 (L.take N)) (hend : ∀ xs w', (∀ i, i < N → V i (xs i) w') → R w w' → wpListIn F n P L.toArray Q (L.drop N) (putsH xs (L.take N) 0 a) w') : (Code.region id L.toArray true).wpIn F n P Q a w := by
  simp only [heldB, Bool.and_eq_true, Bool.or_eq_true, decide_eq_true_eq] at hok
  obtain ⟨⟨⟨⟨⟨hs, hc⟩, hb⟩, hb0⟩, hsl⟩, hD⟩ := hok
  have hNl : N ≤ L.length := by omega
  refine wpIn_region_any hm ?_
  have h0 : putsH (firstX (L.take N) a) (L.take N) 0 a = a := putsH_first _ 0 a fun i o d ho hd => by
    unfold firstX
    rw [Nat.zero_add, ho, Option.bind_some, hd]
  have hle : ∀ k, cntH (Array.replicate L.length false) k ≤ k := by
    intro k
    induction k with
    | zero => exact Nat.le_refl _
    | succ k ih => unfold cntH; split <;> omega
  have h := wpAnyIn_held (F := F) (n := n) (P := P) hNl hs hc hb hb0 hsl hD hRt hV hops hend _ L.toArray.size (Array.replicate L.length false) (firstX (L.take N) a) w.drew rfl (by rw [List.size_toArray]; have := hle N; omega)
    ⟨by simp, fun j oj _ hl e _ _ => (by rw [getD_replicate_false] at hl; exact Bool.noConfusion hl), fun t _ htt => (by rw [List.size_toArray] at htt; simp [htt])⟩ (fun i _ hl => (by rw [getD_replicate_false] at hl; exact Bool.noConfusion hl)) hRd
  rw [h0] at h
  simpa using h

/-- The same of a region that draws no order. -/
def heldLB (N : Nat) (D : Nat → List Nat) (L : List Oper) : Bool := decide (N ≤ L.length) && slotsB (L.take N) && ((List.range N).all fun k => (D k).all fun j => decide (j < k))
theorem wpListIn_held {N : Nat} {L : List Oper} {Q : Exit → Act → World → Prop} {V : Nat → Value → World → Prop} {R : World → World → Prop} {D : Nat → List Nat} {a : Act} {w : World} (hNl : N ≤ L.length) (hsl : slotsB (L.take N) = true) (hD : ∀ k, k < N → ∀ j ∈ D k, j < k)
    (hRt : ∀ x y z, R x y → R y z → R x z) (hV : ∀ i v x y, V i v x → R x y → V i v y)
    (hops : HeldOps F n P L N Q V R D a w 0 (L.take N)) (hend : ∀ xs w', (∀ i, i < N → V i (xs i) w') → R w w' → wpListIn F n P L.toArray Q (L.drop N) (putsH xs (L.take N) 0 a) w') :
    ∀ (r k : Nat) (xs : Nat → Value) (w' : World), k + r = N → (∀ i, i < k → V i (xs i) w') → R w w' → wpListIn F n P L.toArray Q (L.drop k) (putsH xs (L.take N) 0 a) w'
  | 0, k, xs, w', hk, hv, hR => by
    obtain rfl : k = N := by omega
    exact hend xs w' hv hR
  | r + 1, k, xs, w', hk, hv, hR => by
    have hkN : k < N := by omega
    have hkl : k < L.length := by omega
    rw [List.drop_eq_getElem_cons hkl]
    have hol : (L.take N)[k]? = some L[k] := by rw [List.getElem?_take_of_lt hkN, List.getElem?_eq_getElem hkl]
    have hop := HeldOps.get (L.take N) 0 hops k _ hol
    rw [Nat.zero_add] at hop
    have next : ∀ v w'', V k v w'' → R w' w'' → wpListIn F n P L.toArray Q (L.drop (k + 1)) ((putsH xs (L.take N) 0 a).put L[k].dst v) w'' := by
      intro v w'' hvk hR2
      rw [putsH_set v _ 0 a k _ hsl hol, Nat.zero_add]
      refine wpListIn_held hNl hsl hD hRt hV hops hend r (k + 1) _ w'' (by omega) (fun i hi => ?_) (hRt _ _ _ hR hR2)
      by_cases e : i = k
      · subst e; rw [if_pos rfl]; exact hvk
      · rw [if_neg e]; exact hV _ _ _ _ (hv i (by omega)) hR2
    have hst := hop.out xs w' (fun j hj => hv j (hD k hkN j hj)) hR (fun v w'' => wpListIn F n P L.toArray Q (L.drop (k + 1)) ((putsH xs (L.take N) 0 a).put L[k].dst v) w'') next
    unfold wpListIn
    split
    · rename_i hw
      rw [if_pos hw] at hst
      exact Oper.wpIn_mono (fun a'' w'' ⟨v, e, h⟩ => by rw [e]; exact h) hst
    · rename_i hw
      rw [if_neg hw] at hst
      exact hst
theorem wpIn_region_heldL (N : Nat) (D : Nat → List Nat) (V : Nat → Value → World → Prop) (R : World → World → Prop) {id : Nat} {Q : Exit → Act → World → Prop} {a : Act} {w : World} {L : List Oper} (hok : heldLB N D L = true)
    (hRt : ∀ x y z, R x y → R y z → R x z) (hRr : R w w) (hV : ∀ i v x y, V i v x → R x y → V i v y)
    (hops : HeldOps F n P L N Q V R D a w 0 (L.take N)) (hend : ∀ xs w', (∀ i, i < N → V i (xs i) w') → R w w' → wpListIn F n P L.toArray Q (L.drop N) (putsH xs (L.take N) 0 a) w') : (Code.region id L.toArray false).wpIn F n P Q a w := by
  simp only [heldLB, Bool.and_eq_true, decide_eq_true_eq] at hok
  obtain ⟨⟨hNl, hsl⟩, hD⟩ := hok
  refine wpIn_region_lit ?_
  have h0 : putsH (firstX (L.take N) a) (L.take N) 0 a = a := putsH_first _ 0 a fun i o d ho hd => by
    unfold firstX
    rw [Nat.zero_add, ho, Option.bind_some, hd]
  have h := wpListIn_held (F := F) (n := n) (P := P) (Q := Q) hNl hsl (fun k hk j hj => by
    have := List.all_eq_true.1 (List.all_eq_true.1 hD k (List.mem_range.2 hk)) j hj
    simpa using this) hRt hV hops hend N 0 (firstX (L.take N) a) w (by omega) (fun i hi => absurd hi (Nat.not_lt_zero i)) hRr
  rw [h0, List.drop_zero] at h
  exact h

/-- A fence that bars nothing. -/
def Fence.free (F : Fence) : Prop := F.depth = none ∧ ∀ f, F.fn f
theorem free_wide : Fence.free Fence.wide := ⟨rfl, fun _ => trivial⟩
theorem free_round (l : Nat) : Fence.free (Fence.wide.inRound l) := ⟨rfl, fun _ => trivial⟩

section
variable {L : List Oper} {N : Nat} {Q : Exit → Act → World → Prop} {V : Nat → Value → World → Prop} {R : World → World → Prop} {D : Nat → List Nat} {a : Act} {w : World} {k : Nat} {o : Oper}
/-- The guard is held. -/
structure HeldGd (L : List Oper) (N : Nat) (V : Nat → Value → World → Prop) (R : World → World → Prop) (D : Nat → List Nat) (a : Act) (w : World) (k : Nat) (o : Oper) : Prop where
  out : ∀ (xs : Nat → Value) (w' : World), (∀ j ∈ D k, V j (xs j) w') → R w w' → Region.wanted o (yielded L.toArray (putsH xs (L.take N) 0 a).tmps) = true
theorem heldGd_none (h : o.guard = none) : HeldGd L N V R D a w k o := ⟨fun _ _ _ _ => by simp [Region.wanted, h]⟩
/-- An operation that runs to a value and leaves the world as it is. -/
theorem held_runG (hF : Fence.free F) (hg : HeldGd L N V R D a w k o) (hnd : noDefer o = true) (hRr : ∀ x, R x x)
    (h : ∀ (xs : Nat → Value) (w' : World), (∀ j ∈ D k, V j (xs j) w') → R w w' → ∃ v, (execOp (putsH xs (L.take N) 0 a).eval o).run P w' = .ok (.value v) w' ∧ V k v w') : HeldOp F n P L N Q V R D a w k o := by
  refine ⟨?_⟩
  intro xs w' hk hR K hK
  rw [if_pos (hg.out xs w' hk hR)]
  obtain ⟨v, h1, h2⟩ := h xs w' hk hR
  unfold Oper.wpIn
  refine ⟨fun f _ => hF.2 f, ?_⟩
  rw [Oper.semAt_plain F _ o (noDefer_spec hnd), h1]
  exact ⟨v, rfl, hK _ _ h2 (hRr _)⟩
/-- A call of a function by its name. -/
theorem held_callG (hF : Fence.free F) (hg : HeldGd L N V R D a w k o) (f : FuncId) (ags : Array Operand) (ats : Array TypeId) (ho : o.op = .call { callee := .value (.func f), args := ags, argTypes := ats })
    (eg : Enters P f)
    (h : ∀ (xs : Nat → Value) (w' : World), (∀ j ∈ D k, V j (xs j) w') → R w w' → ∃ v', ags.map (putsH xs (L.take N) 0 a).eval = v' ∧ CallsIn F (n - 1) P f v' w' fun e w'' => ∃ v, e = .returned v ∧ V k v w'' ∧ R w' w'') : HeldOp F n P L N Q V R D a w k o := by
  refine ⟨?_⟩
  intro xs w' hk hR K hK
  rw [if_pos (hg.out xs w' hk hR)]
  obtain ⟨v', h1, h2⟩ := h xs w' hk hR
  subst h1
  unfold Oper.wpIn
  refine ⟨fun f _ => hF.2 f, ?_⟩
  have hr : (execOp (putsH xs (L.take N) 0 a).eval o).run P w' = .ok (.enter f (ags.map (putsH xs (L.take N) 0 a).eval)) w' := by
    unfold execOp
    simp only [ho, resolve, show (putsH xs (L.take N) 0 a).eval (.func f) = .func (.func f) #[] #[] from rfl, Deferred.ofValue, Sem.run_bind, Sem.run_pure, Result.andThen_ok, invoke]
    rw [eg]
    simp
  rw [Oper.semAt_plain F _ o (fun c hc => by rw [ho] at hc; cases hc), hr]
  refine ⟨fun hd => (by rw [hF.1] at hd; cases hd), h2.mono ?_⟩
  rintro e w'' ⟨v, rfl, h3, h4⟩
  exact ⟨v, rfl, hK _ _ h3 h4⟩
/-- A move. -/
theorem held_moveG (hF : Fence.free F) (hg : HeldGd L N V R D a w k o) (hRr : ∀ x, R x x) (x : Operand) (ho : o.op = .move x ∨ o.op = .assign x)
    (h : ∀ (xs : Nat → Value) (w' : World), (∀ j ∈ D k, V j (xs j) w') → R w w' → V k ((putsH xs (L.take N) 0 a).eval x) w') : HeldOp F n P L N Q V R D a w k o :=
  held_runG hF hg (by unfold noDefer; rcases ho with e | e <;> rw [e]) hRr fun xs w' hk hR => ⟨_, by unfold execOp; rcases ho with e | e <;> simp only [e] <;> rfl, h xs w' hk hR⟩
/-- A load. -/
theorem held_loadG (hF : Fence.free F) (hg : HeldGd L N V R D a w k o) (hRr : ∀ x, R x x) (T : TypeId) (x : Operand) (ho : o.op = .load T x)
    (h : ∀ (xs : Nat → Value) (w' : World), (∀ j ∈ D k, V j (xs j) w') → R w w' → ∃ p v, (putsH xs (L.take N) 0 a).eval x = .pointer (some p) ∧ (loadVar T p).run P w' = .ok v w' ∧ V k v w') : HeldOp F n P L N Q V R D a w k o :=
  held_runG hF hg (by unfold noDefer; rw [ho]) hRr fun xs w' hk hR => by
    obtain ⟨p, v, h1, h2, h3⟩ := h xs w' hk hR
    exact ⟨v, by unfold execOp; simp only [ho, h1, Instr.loadAt, Instr.sureAddr, Sem.run_bind, Sem.run_pure, Result.andThen_ok, h2], h3⟩
/-- An operation whose guard is not held. -/
theorem held_skip (hF : Fence.free F) (hg : ∀ (xs : Nat → Value) (w' : World), (∀ j ∈ D k, V j (xs j) w') → R w w' → Region.wanted o (yielded L.toArray (putsH xs (L.take N) 0 a).tmps) = false) (hRr : ∀ x, R x x) (hV : ∀ w', V k undef w') : HeldOp F n P L N Q V R D a w k o := by
  refine ⟨?_⟩
  intro xs w' hk hR K hK
  rw [if_neg (by rw [hg xs w' hk hR]; exact Bool.false_ne_true)]
  exact ⟨fun f _ => hF.2 f, hK _ _ (hV w') (hRr _)⟩
theorem held_run (hF : Fence.free F) (hg : o.guard = none) (hnd : noDefer o = true) (hRr : ∀ x, R x x)
    (h : ∀ (xs : Nat → Value) (w' : World), (∀ j ∈ D k, V j (xs j) w') → R w w' → ∃ v, (execOp (putsH xs (L.take N) 0 a).eval o).run P w' = .ok (.value v) w' ∧ V k v w') : HeldOp F n P L N Q V R D a w k o := held_runG hF (heldGd_none hg) hnd hRr h
theorem held_call (hF : Fence.free F) (hg : o.guard = none) (f : FuncId) (ags : Array Operand) (ats : Array TypeId) (ho : o.op = .call { callee := .value (.func f), args := ags, argTypes := ats })
    (eg : Enters P f)
    (h : ∀ (xs : Nat → Value) (w' : World), (∀ j ∈ D k, V j (xs j) w') → R w w' → ∃ v', ags.map (putsH xs (L.take N) 0 a).eval = v' ∧ CallsIn F (n - 1) P f v' w' fun e w'' => ∃ v, e = .returned v ∧ V k v w'' ∧ R w' w'') : HeldOp F n P L N Q V R D a w k o := held_callG hF (heldGd_none hg) f ags ats ho eg h
theorem held_move (hF : Fence.free F) (hg : o.guard = none) (hRr : ∀ x, R x x) (x : Operand) (ho : o.op = .move x ∨ o.op = .assign x)
    (h : ∀ (xs : Nat → Value) (w' : World), (∀ j ∈ D k, V j (xs j) w') → R w w' → V k ((putsH xs (L.take N) 0 a).eval x) w') : HeldOp F n P L N Q V R D a w k o := held_moveG hF (heldGd_none hg) hRr x ho h
theorem held_load (hF : Fence.free F) (hg : o.guard = none) (hRr : ∀ x, R x x) (T : TypeId) (x : Operand) (ho : o.op = .load T x)
    (h : ∀ (xs : Nat → Value) (w' : World), (∀ j ∈ D k, V j (xs j) w') → R w w' → ∃ p v, (putsH xs (L.take N) 0 a).eval x = .pointer (some p) ∧ (loadVar T p).run P w' = .ok v w' ∧ V k v w') : HeldOp F n P L N Q V R D a w k o := held_loadG hF (heldGd_none hg) hRr T x ho h
end
end
/-- Which operation writes a slot. -/
def whoPuts (t : Nat) : List Oper → Nat → Option Nat
  | [], _ => none
  | o :: os, k => match whoPuts t os (k + 1) with
    | some i => some i
    | none => match o.dst with
      | some d => if d == t then some k else none
      | none => none
theorem put_eval (a : Act) (x : Option Tmp) (v : Value) (t : Nat) : (a.put x v).eval (.tmp t) = if x = some t then (if t < a.tmps.size then v else undef) else a.eval (.tmp t) := by
  cases x with
  | none => rfl
  | some d =>
    by_cases e : d = t
    · subst e
      rw [if_pos rfl]
      by_cases h : d < a.tmps.size
      · simp [Act.put, Act.eval, h]
      · rw [if_neg h]
        simp [Act.put, Act.eval]
        exact fun h' => absurd h' h
    · rw [if_neg (fun h => e (Option.some.inj h))]
      simp [Act.put, Act.eval, Array.getElem?_setIfInBounds_ne e]
theorem put_size (a : Act) (x : Option Tmp) (v : Value) : (a.put x v).tmps.size = a.tmps.size := by cases x <;> simp [Act.put]
theorem putsH_eval {xs : Nat → Value} (t : Nat) : ∀ (l : List Oper) (k : Nat) (a : Act), (putsH xs l k a).eval (.tmp t) = match whoPuts t l k with
    | some i => if t < a.tmps.size then xs i else undef
    | none => a.eval (.tmp t)
  | [], _, _ => rfl
  | o :: os, k, a => by
    unfold putsH whoPuts
    rw [putsH_eval t os (k + 1) _, put_size]
    cases h : whoPuts t os (k + 1) with
    | some i => rfl
    | none =>
      simp only
      rw [put_eval]
      cases hd : o.dst with
      | none => rfl
      | some d =>
        by_cases e : d = t
        · subst e; simp
        · rw [if_neg (fun h => e (Option.some.inj h))]
          have : (d == t) = false := by simpa using e
          simp [this]
theorem putsH_tmp {xs : Nat → Value} {l : List Oper} {a : Act} {t i : Nat} (h : whoPuts t l 0 = some i) (ht : Nat.blt t a.tmps.size = true) : (putsH xs l 0 a).eval (.tmp t) = xs i := by
  rw [putsH_eval, h]
  exact if_pos (Nat.blt_eq ▸ ht)
theorem putsH_old {xs : Nat → Value} {l : List Oper} {a : Act} {t : Nat} (h : whoPuts t l 0 = none) : (putsH xs l 0 a).eval (.tmp t) = a.eval (.tmp t) := by
  rw [putsH_eval, h]
/-- A guard by what was known of the test's value. -/
theorem wanted_of {L : List Oper} {N : Nat} {a : Act} {xs : Nat → Value} {o : Oper} {j d : Nat} {b b' : Bool} (hg : o.guard = some (j, b)) (hd : (L.toArray[j]?).bind (·.dst) = some d) (hw : whoPuts d (L.take N) 0 = some j) (hs : Nat.blt d a.tmps.size = true) (hv : xs j = .bool b') :
    Region.wanted o (yielded L.toArray (putsH xs (L.take N) 0 a).tmps) = (b' == b) := by
  have he := putsH_tmp (xs := xs) (a := a) hw hs
  rw [hv] at he
  have hsz : d < (putsH xs (L.take N) 0 a).tmps.size := by
    rcases Nat.lt_or_ge d (putsH xs (L.take N) 0 a).tmps.size with h | h
    · exact h
    · exfalso
      have he' : (putsH xs (L.take N) 0 a).tmps.getD d undef = .bool b' := he
      rw [Array.getD_eq_getD_getElem?, Array.getElem?_eq_none h] at he'
      cases he'
  have he' : (putsH xs (L.take N) 0 a).tmps.getD d undef = .bool b' := he
  rw [Array.getD_eq_getD_getElem?, Array.getElem?_eq_getElem hsz] at he'
  have he2 : (putsH xs (L.take N) 0 a).tmps[d] = .bool b' := he'
  unfold Region.wanted yielded
  rw [hg]
  simp only [hd, Option.bind_some, Array.getElem?_eq_getElem hsz, he2]
  cases b <;> cases b' <;> rfl
theorem heldGd_some {L : List Oper} {N : Nat} {V : Nat → Value → World → Prop} {R : World → World → Prop} {D : Nat → List Nat} {a : Act} {w : World} {k : Nat} {o : Oper} (j d : Nat) (b : Bool) (hg : o.guard = some (j, b)) (hd : (L.toArray[j]?).bind (·.dst) = some d) (hw : whoPuts d (L.take N) 0 = some j) (hs : Nat.blt d a.tmps.size = true)
    (hv : ∀ (xs : Nat → Value) (w' : World), (∀ j ∈ D k, V j (xs j) w') → xs j = .bool b) : HeldGd L N V R D a w k o := ⟨fun xs w' hk _ => by
  rw [wanted_of hg hd hw hs (hv xs w' hk)]
  cases b <;> rfl⟩
theorem heldGd_not {F : Fence} {n : Nat} {P : Program} {Q : Exit → Act → World → Prop} {L : List Oper} {N : Nat} {V : Nat → Value → World → Prop} {R : World → World → Prop} {D : Nat → List Nat} {a : Act} {w : World} {k : Nat} {o : Oper} (hF : Fence.free F) (j d : Nat) (b : Bool) (hg : o.guard = some (j, b)) (hd : (L.toArray[j]?).bind (·.dst) = some d) (hw : whoPuts d (L.take N) 0 = some j) (hs : Nat.blt d a.tmps.size = true)
    (hv : ∀ (xs : Nat → Value) (w' : World), (∀ j ∈ D k, V j (xs j) w') → xs j = .bool (!b)) (hRr : ∀ x, R x x) (hV : ∀ w', V k undef w') : HeldOp F n P L N Q V R D a w k o :=
  held_skip hF (fun xs w' hk _ => by
    rw [wanted_of hg hd hw hs (hv xs w' hk)]
    cases b <;> rfl) hRr hV
theorem wanted_undef {L : List Oper} {N : Nat} {a : Act} {xs : Nat → Value} {o : Oper} {j d : Nat} {b : Bool} (hg : o.guard = some (j, b)) (hd : (L.toArray[j]?).bind (·.dst) = some d) (hw : whoPuts d (L.take N) 0 = some j) (hs : Nat.blt d a.tmps.size = true) (hv : xs j = undef) :
    Region.wanted o (yielded L.toArray (putsH xs (L.take N) 0 a).tmps) = false := by
  have he := putsH_tmp (xs := xs) (a := a) hw hs
  rw [hv] at he
  have he' : (putsH xs (L.take N) 0 a).tmps.getD d undef = undef := he
  unfold Region.wanted yielded
  rw [hg]
  simp only [hd, Option.bind_some]
  rcases Nat.lt_or_ge d (putsH xs (L.take N) 0 a).tmps.size with h | h
  · rw [Array.getD_eq_getD_getElem?, Array.getElem?_eq_getElem h] at he'
    have he2 : (putsH xs (L.take N) 0 a).tmps[d] = undef := he'
    rw [Array.getElem?_eq_getElem h, he2]
    rfl
  · rw [Array.getElem?_eq_none h]
    rfl
/-- What is known of a value that is there only under a condition. -/
def cdV (C : Prop) (p : Value → World → Prop) (v : Value) (w : World) : Prop := (C ∧ p v w) ∨ (¬ C ∧ v = undef)
theorem cdV.get {C : Prop} {p : Value → World → Prop} {v : Value} {w : World} (h : cdV C p v w) (hc : C) : p v w := h.elim (fun h => h.2) (fun h => absurd hc h.1)
/-- An operation whose guard is a truth that is not decided. -/
theorem held_guard {F : Fence} {n : Nat} {P : Program} {Q : Exit → Act → World → Prop} {L : List Oper} {N : Nat} {V : Nat → Value → World → Prop} {R : World → World → Prop} {D : Nat → List Nat} {a : Act} {w : World} {k : Nat} {o : Oper} (hF : Fence.free F) (j d : Nat) (b : Bool) (Cg : Prop) (E : Bool) (hRr : ∀ x, R x x)
    (hg : o.guard = some (j, b)) (hd : (L.toArray[j]?).bind (·.dst) = some d) (hw : whoPuts d (L.take N) 0 = some j) (hs : Nat.blt d a.tmps.size = true)
    (hv : ∀ (xs : Nat → Value) (w' : World), (∀ j ∈ D k, V j (xs j) w') → (Cg ∧ xs j = .bool E) ∨ (¬ Cg ∧ xs j = undef))
    (h1 : Cg ∧ E = b → HeldGd L N V R D a w k o → HeldOp F n P L N Q V R D a w k o) (h2 : ¬ (Cg ∧ E = b) → ∀ w', V k undef w') : HeldOp F n P L N Q V R D a w k o := by
  by_cases hc : Cg ∧ E = b
  · refine h1 hc ⟨fun xs w' hk _ => ?_⟩
    rcases hv xs w' hk with ⟨_, e⟩ | ⟨hn, _⟩
    · rw [wanted_of hg hd hw hs e, hc.2]
      cases b <;> rfl
    · exact absurd hc.1 hn
  · refine held_skip hF (fun xs w' hk _ => ?_) hRr (h2 hc)
    rcases hv xs w' hk with ⟨h3, e⟩ | ⟨_, e⟩
    · rw [wanted_of hg hd hw hs e]
      have : E ≠ b := fun h => hc ⟨h3, h⟩
      cases b <;> cases E <;> simp_all
    · exact wanted_undef hg hd hw hs e
section
variable {P : Program} {ρ : Operand → Value} {o : Oper} {w w' : World}
theorem run_pickO {c x y : Operand} {b : Bool} {v : Value} (ho : o.op = .pick c x y) (hc : ρ c = .bool b) (hv : (if b then ρ x else ρ y) = v) : (execOp ρ o).run P w = .ok (.value v) w := by
  unfold execOp
  subst hv
  cases b <;> simp [ho, hc, asBool]
theorem run_pickT {c x y : Operand} {v : Value} (ho : o.op = .pick c x y) (hc : ρ c = .bool true) (hv : ρ x = v) : (execOp ρ o).run P w = .ok (.value v) w := run_pickO ho hc hv
theorem run_pickF {c x y : Operand} {v : Value} (ho : o.op = .pick c x y) (hc : ρ c = .bool false) (hv : ρ y = v) : (execOp ρ o).run P w = .ok (.value v) w := run_pickO ho hc hv
theorem run_pickAnd {c x : Operand} {C X : Bool} (ho : o.op = .pick c x (.const (.bool false))) (hc : ρ c = .bool C) (hr : ρ (.const (.bool false)) = .bool false) (hx : C = true → ρ x = .bool X) : (execOp ρ o).run P w = .ok (.value (.bool (C && X))) w := by
  cases C
  · exact run_pickO ho hc hr
  · exact run_pickO ho hc (hx rfl)
theorem run_pickOr {c y : Operand} {C Y : Bool} (ho : o.op = .pick c (.const (.bool true)) y) (hc : ρ c = .bool C) (hr : ρ (.const (.bool true)) = .bool true) (hy : C = false → ρ y = .bool Y) : (execOp ρ o).run P w = .ok (.value (.bool (C || Y))) w := by
  cases C
  · exact run_pickO ho hc (hy rfl)
  · exact run_pickO ho hc hr
theorem run_fldO {T : TypeId} {x : Operand} {f : Nat} {v : Value} (ho : o.op = .fieldAddr T x f) {vx : Value} (hx : ρ x = vx) (hr : (Instr.fieldAt T vx f).run P w = .ok v w) : (execOp ρ o).run P w = .ok (.value v) w := by
  subst hx
  unfold execOp
  simp only [ho, Sem.run_bind, hr, Sem.run_pure, Result.andThen_ok]
theorem run_unO {op : UnOp} {T : TypeId} {x : Operand} {vx v : Value} (ho : o.op = .unOp op T x) (hx : ρ x = vx) (hr : (Op.unary op vx).run P w = .ok v w) : (execOp ρ o).run P w = .ok (.value v) w := by
  subst hx
  unfold execOp
  simp only [ho, Sem.run_bind, hr, Sem.run_pure, Result.andThen_ok]
theorem run_idxO {T : TypeId} {x i : Operand} {vx vi v : Value} (ho : o.op = .indexAddr T x i) (hx : ρ x = vx) (hi : ρ i = vi) (hr : (Instr.indexAt T vx vi).run P w = .ok v w) : (execOp ρ o).run P w = .ok (.value v) w := by
  subst hx hi
  unfold execOp
  simp only [ho, Sem.run_bind, hr, Sem.run_pure, Result.andThen_ok]
theorem run_cvtO {S T : TypeId} {x : Operand} {vx v : Value} (ho : o.op = .convert S T x) (hx : ρ x = vx) (hr : (convert S T vx).run P w = .ok v w) : (execOp ρ o).run P w = .ok (.value v) w := by
  subst hx
  unfold execOp
  simp only [ho, Sem.run_bind, hr, Sem.run_pure, Result.andThen_ok]
theorem run_binO {op : BinOp} {T T2 : TypeId} {x y : Operand} {vx vy v : Value} (ho : o.op = .binOp op T x y T2) (hx : ρ x = vx) (hy : ρ y = vy) (hr : (do eqGuard op T x y vx vy; Go.binOp op T vx vy : Sem Value).run P w = .ok v w) : (execOp ρ o).run P w = .ok (.value v) w := by
  unfold execOp
  subst hx hy
  simp only [ho]
  rw [Sem.run_bind] at hr
  simp only [Sem.run_bind, Sem.run_pure]
  rw [hr]
  rfl
theorem run_sliceO {T : TypeId} {x : Operand} {l h m : Option Operand} {v : Value} (ho : o.op = .slice T x l h m) (hr : (Instr.sliceAt T (ρ x) (l.map ρ) (h.map ρ) (m.map ρ)).run P w = .ok v w) : (execOp ρ o).run P w = .ok (.value v) w := by
  unfold execOp
  simp only [ho, Sem.run_bind, hr, Sem.run_pure, Result.andThen_ok]
end
section
variable {P : Program} {T : TypeId} {x y : Operand} {k : IntKind} {a b : Int} {w : World}
theorem bin_geq : (do eqGuard .geq T x y (.int k a) (.int k b); Go.binOp .geq T (.int k a) (.int k b) : Sem Value).run P w = .ok (.bool (decide (b ≤ a))) w := by simp [eqGuard, Go.binOp, Op.intCmp]
theorem bin_leq : (do eqGuard .leq T x y (.int k a) (.int k b); Go.binOp .leq T (.int k a) (.int k b) : Sem Value).run P w = .ok (.bool (decide (a ≤ b))) w := by simp [eqGuard, Go.binOp, Op.intCmp]
theorem bin_lss : (do eqGuard .lss T x y (.int k a) (.int k b); Go.binOp .lss T (.int k a) (.int k b) : Sem Value).run P w = .ok (.bool (decide (a < b))) w := by simp [eqGuard, Go.binOp, Op.intCmp]
theorem bin_gtr : (do eqGuard .gtr T x y (.int k a) (.int k b); Go.binOp .gtr T (.int k a) (.int k b) : Sem Value).run P w = .ok (.bool (decide (b < a))) w := by simp [eqGuard, Go.binOp, Op.intCmp]
theorem bin_eql : (do eqGuard .eql T x y (.int k a) (.int k b); Go.binOp .eql T (.int k a) (.int k b) : Sem Value).run P w = .ok (.bool (a == b)) w := by simp [eqGuard, Go.binOp, Op.intCmp]
theorem bin_neq : (do eqGuard .neq T x y (.int k a) (.int k b); Go.binOp .neq T (.int k a) (.int k b) : Sem Value).run P w = .ok (.bool (a != b)) w := by simp [eqGuard, Go.binOp, Op.intCmp]
end
theorem bin_eqlB {P : Program} {T : TypeId} (hT : P.underlying T = some .bool) (x y : Operand) (a b : Bool) (w : World) : (do eqGuard .eql T x y (.bool a) (.bool b); Go.binOp .eql T (.bool a) (.bool b) : Sem Value).run P w = .ok (.bool (a == b)) w := by
  simp [eqGuard, Go.binOp, Op.equal, Op.maxDepth, run_equalIn_bool w 9999 T a b hT]
theorem bin_neqB {P : Program} {T : TypeId} (hT : P.underlying T = some .bool) (x y : Operand) (a b : Bool) (w : World) : (do eqGuard .neq T x y (.bool a) (.bool b); Go.binOp .neq T (.bool a) (.bool b) : Sem Value).run P w = .ok (.bool (a != b)) w := by
  simp [eqGuard, Go.binOp, Op.equal, Op.maxDepth, run_equalIn_bool w 9999 T a b hT]
  cases a <;> cases b <;> rfl
/-- A part of a block, loaded. -/
theorem run_loadVar_sub {P : Program} (w : World) (g off : Nat) (t ty : TypeId) (cs : Array Value) (l : List Value) {d : TypeDesc} (hg : w.heap[g]? = some (.cells cs t (0, 0))) (hl : (cs.toList.drop off).take l.length = l)
    (hu : P.underlying ty = some d) (hd : (match d with | .struct _ | .array _ _ => true | _ => false) = true) (hi : (P.info? ty).map (·.size) = some l.length) : (loadVar ty ⟨g, off, none⟩).run P w = .ok (.agg l.toArray) w := by
  have hc : (loadCells ⟨g, off, none⟩ l.length).run P w = .ok l.toArray w :=
    run_loadCells_list (P := P) w ⟨g, off, none⟩ l (fun j v hv => by
      have hadd : (⟨g, off, none⟩ : Addr).add j = ⟨g, off + j, none⟩ := by unfold Addr.add; split <;> simp_all
      rw [hadd, cell_of_row w g (off + j) cs t (0, 0) hg]
      have hj : j < l.length := (List.getElem?_eq_some_iff.1 hv).1
      have h2 := congrArg (fun z => z[j]?) hl
      simp only [List.getElem?_take_of_lt hj, List.getElem?_drop] at h2
      rw [← Array.getElem?_toList, h2]
      exact hv)
  cases hq : P.info? ty with
  | none => simp [hq] at hi
  | some i =>
    have hs : i.size = l.length := by simpa [hq] using hi
    have hagg : (isAgg ty).run P w = .ok true w := by
      unfold isAgg
      rw [Sem.run_bind, run_underlying hu w]
      cases d <;> simp_all
    simp [loadVar, Sem.run_bind, hagg, sizeOf, typeInfo, hq, hs, hc]
/-- All blocks kept: the relation of calls that make memory. -/
def BelowR (W W' : World) : Prop := Below W.heap.size W W'
theorem BelowR.refl (W : World) : BelowR W W := Below.refl _ W
theorem BelowR.trans (x y z : World) (h : BelowR x y) (k : BelowR y z) : BelowR x z := Below.trans h (Below.mono k (Below.size h))
theorem BelowR.drew (W : World) : BelowR W W.drew := ⟨rfl, rfl, rfl, Nat.le_refl _, fun _ _ => rfl⟩
/-- A list as a function. -/
def atV (l : List (Value → World → Prop)) (i : Nat) : Value → World → Prop := (l[i]?).getD fun _ _ => True
/-- What is known of a value, and that it stays. -/
inductive StV (R : World → World → Prop) : List (Value → World → Prop) → Prop
  | nil : StV R []
  | const {l : List (Value → World → Prop)} (c : Value) (h : StV R l) : StV R ((fun v _ => v = c) :: l)
  | cons {l : List (Value → World → Prop)} {p : Value → World → Prop} (hp : ∀ v x y, p v x → R x y → p v y) (h : StV R l) : StV R (p :: l)
theorem StV.atV {R : World → World → Prop} {l : List (Value → World → Prop)} (h : StV R l) : ∀ i v x y, atV l i v x → R x y → Go.Proofs.Ytdglhppcfdpcaaa.atV l i v y := by
  induction h with
  | nil => intro i v x y h _; simp [Go.Proofs.Ytdglhppcfdpcaaa.atV]
  | const c h ih =>
    intro i v x y h hR
    cases i with
    | zero => exact h
    | succ i => exact ih i v x y (by simpa [Go.Proofs.Ytdglhppcfdpcaaa.atV] using h) hR
  | cons hp h ih =>
    intro i v x y h hR
    cases i with
    | zero => exact hp v x y h hR
    | succ i => exact ih i v x y (by simpa [Go.Proofs.Ytdglhppcfdpcaaa.atV] using h) hR
def atD (l : List (List Nat)) (i : Nat) : List Nat := (l[i]?).getD []
end Go.Proofs.Ytdglhppcfdpcaaa
namespace Go.Proofs.Ytdglhppcfdpcaaa
open Go Go.RowKit

abbrev Objs := List (Nat × Obj)
abbrev cellsO (g : Nat) (t : TypeId) (cs : Array Value) : Nat × Obj := (g, .cells cs t (0, 0))

/-- The objects L lie as told, each a block from B on; beside them the world base is as it was. -/
structure Own (B : Nat) (base : World) (L : Objs) (W : World) : Prop where
  obj : ∀ x ∈ L, W.heap[x.1]? = some x.2
  nd : L.Pairwise (fun x y => x.1 ≠ y.1)
  lo : ∀ x ∈ L, B ≤ x.1
  os : W.os = base.os
  tape : W.tape = base.tape
  output : W.output = base.output
  size : base.heap.size ≤ W.heap.size
  far : ∀ b, b < base.heap.size → (∀ x ∈ L, x.1 ≠ b) → W.heap[b]? = base.heap[b]?

section
variable {B : Nat} {base W W' : World} {L L' : Objs}
theorem Own.start (B : Nat) (W : World) : Own B W [] W :=
  ⟨fun _ h => by simp at h, List.Pairwise.nil, fun _ h => by simp at h, rfl, rfl, rfl, Nat.le_refl _, fun _ _ _ => rfl⟩
theorem Own.lt (h : Own B base L W) {x : Nat × Obj} (hx : x ∈ L) : x.1 < W.heap.size := (Array.getElem?_eq_some_iff.1 (h.obj x hx)).1
theorem Own.get (h : Own B base L W) {k : Nat} {x : Nat × Obj} (hk : L[k]? = some x) : W.heap[x.1]? = some x.2 := h.obj x (List.mem_of_getElem? hk)
theorem Own.blk (h : Own B base L W) {k g : Nat} {t : TypeId} {cs : Array Value} (hk : L[k]? = some (g, .cells cs t (0, 0))) : Blk W g t cs := h.get hk
theorem Own.mem (h : Own B base L W) {g : Nat} {t : TypeId} {cs : Array Value} (hk : (g, Obj.cells cs t (0, 0)) ∈ L) : Blk W g t cs := h.obj _ hk
theorem Own.below (h : Own B base L W) (hB : B ≤ base.heap.size) : Below B base W :=
  ⟨h.os, h.tape, h.output, h.size, fun b hb => h.far b (by omega) (fun x hx e => by have := h.lo x hx; omega)⟩
theorem Own.rebase (h : Own B base L W) : Own B W L W := ⟨h.obj, h.nd, h.lo, rfl, rfl, rfl, Nat.le_refl _, fun _ _ _ => rfl⟩
theorem Own.trans (h : Own B base L W) (k : Own B W L' W') (hs : ∀ x ∈ L, ∃ y ∈ L', y.1 = x.1) : Own B base L' W' :=
  ⟨k.obj, k.nd, k.lo, k.os.trans h.os, k.tape.trans h.tape, k.output.trans h.output, Nat.le_trans h.size k.size, fun b hb hn =>
    (k.far b (Nat.lt_of_lt_of_le hb h.size) hn).trans (h.far b hb (fun x hx e => by obtain ⟨y, hy, he⟩ := hs x hx; exact hn y hy (he.trans e)))⟩
/-- A step that keeps all blocks. -/
theorem Own.step (h : Own B base L W) (hb : Below W.heap.size W W') : Own B base L W' :=
  ⟨fun x hx => (hb.block _ (h.lt hx)).trans (h.obj x hx), h.nd, h.lo, hb.os.trans h.os, hb.tape.trans h.tape, hb.output.trans h.output, Nat.le_trans h.size hb.size,
    fun b h1 h2 => (hb.block b (Nat.lt_of_lt_of_le h1 h.size)).trans (h.far b h1 h2)⟩
theorem below_self_drewN (W : World) (n : Nat) : Below W.heap.size W (W.drewN n) := ⟨rfl, rfl, rfl, Nat.le_refl _, fun _ _ => rfl⟩
theorem Own.drewN (h : Own B base L W) (n : Nat) : Own B base L (W.drewN n) := h.step (below_self_drewN W n)
theorem Own.drew (h : Own B base L W) : Own B base L W.drew := h.step ⟨rfl, rfl, rfl, Nat.le_refl _, fun _ _ => rfl⟩
/-- An object that has come since. -/
theorem Own.add (h : Own B base L W) (hb : Below W.heap.size W W') {g : Nat} {o : Obj} (hB : B ≤ W.heap.size) (hg : W.heap.size ≤ g) (ho : W'.heap[g]? = some o) : Own B base (L ++ [(g, o)]) W' := by
  have h2 := h.step hb
  refine ⟨?_, ?_, ?_, h2.os, h2.tape, h2.output, h2.size, fun b h1 hn => h2.far b h1 fun x hx => hn x (List.mem_append_left _ hx)⟩
  · intro x hx
    rcases List.mem_append.1 hx with hx | hx
    · exact h2.obj x hx
    · obtain rfl := List.mem_singleton.1 hx
      exact ho
  · refine List.pairwise_append.2 ⟨h2.nd, List.pairwise_singleton _ _, fun x hx y hy => ?_⟩
    obtain rfl := List.mem_singleton.1 hy
    have := h.lt hx
    show x.1 ≠ g
    omega
  · intro x hx
    rcases List.mem_append.1 hx with hx | hx
    · exact h2.lo x hx
    · obtain rfl := List.mem_singleton.1 hx
      exact Nat.le_trans hB hg
theorem Own.alloc (h : Own B base L W) (hB : B ≤ W.heap.size) (o : Obj) : Own B base (L ++ [(W.heap.size, o)]) (W.alloc o) :=
  h.add ((Below.refl _ W).alloc (Nat.le_refl _) o) hB (Nat.le_refl _) (World.alloc_heap_new W o)
/-- One object is another one now. -/
theorem Own.put (h : Own B base L W) {k g : Nat} {o o' : Obj} (hk : L[k]? = some (g, o)) (hos : W'.os = W.os) (htp : W'.tape = W.tape) (hout : W'.output = W.output) (hsz : W'.heap.size = W.heap.size)
    (hg : W'.heap[g]? = some o') (hf : ∀ b, b ≠ g → W'.heap[b]? = W.heap[b]?) : Own B base (L.set k (g, o')) W' := by
  have hkl : k < L.length := (List.getElem?_eq_some_iff.1 hk).1
  have hke : L[k] = (g, o) := (List.getElem?_eq_some_iff.1 hk).2
  have hne : ∀ j (hj : j < L.length), j ≠ k → L[j].1 ≠ g := fun j hj hjk => by
    have hp := List.pairwise_iff_getElem.1 h.nd
    rcases Nat.lt_or_gt_of_ne hjk with h1 | h1
    · have := hp j k hj hkl h1; rwa [hke] at this
    · have := hp k j hkl hj h1; rw [hke] at this; exact Ne.symm this
  have hmem : ∀ x ∈ L.set k (g, o'), x = (g, o') ∨ (x ∈ L ∧ x.1 ≠ g) := fun x hx => by
    obtain ⟨j, hj, rfl⟩ := List.getElem_of_mem hx
    rw [List.length_set] at hj
    rw [List.getElem_set]
    split
    · exact .inl rfl
    · rename_i e
      exact .inr ⟨List.getElem_mem hj, hne j hj (Ne.symm e)⟩
  refine ⟨?_, ?_, ?_, hos.trans h.os, htp.trans h.tape, hout.trans h.output, by rw [hsz]; exact h.size, ?_⟩
  · intro x hx
    rcases hmem x hx with rfl | ⟨h1, h2⟩
    · exact hg
    · exact (hf _ h2).trans (h.obj x h1)
  · rw [List.pairwise_iff_getElem]
    intro i j hi hj hij
    have hp := List.pairwise_iff_getElem.1 h.nd
    rw [List.length_set] at hi hj
    have e : ∀ m (hm : m < (L.set k (g, o')).length), ((L.set k (g, o'))[m]).1 = (L[m]'(by rw [List.length_set] at hm; exact hm)).1 := fun m hm => by
      rw [List.getElem_set]
      split
      · rename_i e; subst e; rw [hke]
      · rfl
    rw [e, e]
    exact hp i j hi hj hij
  · intro x hx
    rcases hmem x hx with rfl | ⟨h1, _⟩
    · exact h.lo (g, o) (List.mem_of_getElem? hk)
    · exact h.lo x h1
  · intro b hb hn
    have hbg : b ≠ g := fun e => by
      subst e
      exact hn (b, o') (List.mem_of_getElem? (by rw [List.getElem?_set_self hkl])) rfl
    rw [hf b hbg]
    refine h.far b hb fun x hx e => ?_
    obtain ⟨j, hj, rfl⟩ := List.getElem_of_mem hx
    by_cases hjk : j = k
    · subst hjk; rw [hke] at e; exact hbg e.symm
    · refine hn L[j] (List.mem_of_getElem? (i := j) ?_) e
      rw [List.getElem?_set_ne (Ne.symm hjk), List.getElem?_eq_getElem hj]
theorem Own.setc (h : Own B base L W) {k g i : Nat} {t : TypeId} {cs : Array Value} (hk : L[k]? = some (g, .cells cs t (0, 0))) (v : Value) : Own B base (L.set k (g, .cells (cs.setIfInBounds i v) t (0, 0))) (W.setCell ⟨g, i, none⟩ v) :=
  h.put hk rfl rfl rfl (by simp [World.setCell]) (heap_setCell_same W g i cs t v (h.get hk)) (fun b hb => heap_setCell_other W ⟨g, i, none⟩ b v hb)
theorem Own.setRow (h : Own B base L W) {k g : Nat} {t : TypeId} {cs : Array Value} (hk : L[k]? = some (g, .cells cs t (0, 0))) (cs' : Array Value) : Own B base (L.set k (g, .cells cs' t (0, 0))) (W.setRow g cs') :=
  h.put hk rfl rfl rfl (by simp) (setRow_heap W g cs cs' t (0, 0) (h.get hk)) (fun b hb => setRow_other W g b cs' hb)
theorem Own.putObj (h : Own B base L W) {k g : Nat} {o : Obj} (hk : L[k]? = some (g, o)) (o' : Obj) : Own B base (L.set k (g, o')) (W.putObj g o') :=
  h.put hk rfl rfl rfl (by simp [World.putObj]) (World.putObj_heap_same (h.lt (List.mem_of_getElem? hk))) (fun b hb => World.putObj_heap_other hb)
/-- The caller's blocks stand while the iterator turns others. -/
theorem Own.turn (h : Own B base L W) {O : Nat → Prop} (t : Turn (fun b => ¬ O b) W W') (hO : ∀ x ∈ L, O x.1) (hb : ∀ b, b < base.heap.size → O b) : Own B base L W' :=
  ⟨fun x hx => t.heap (fun e => e (hO x hx)) (h.obj x hx), h.nd, h.lo, t.os.trans h.os, t.tape.trans h.tape, t.output.trans h.output, Nat.le_trans h.size t.size,
    fun b h1 h2 => (t.same b (Nat.lt_of_lt_of_le h1 h.size) (fun e => e (hb b h1))).trans (h.far b h1 h2)⟩
/-- What a round of a range over a function has done: own blocks, and new ones. -/
theorem Own.grow (h : Own B W L' W') {m : Nat} {K : Nat → Prop} (hm : m ≤ W.heap.size) (hL : ∀ x ∈ L', x.1 < m ∨ W.heap.size ≤ x.1) (hK : ∀ b, K b → b < m → W'.heap[b]? = W.heap[b]?)
    (hC : ∀ x ∈ L', x.1 < m → x.2.isCells = false → ∃ o', W.heap[x.1]? = some o' ∧ o'.isCells = false) : Grow K (fun b => b < m) (fun b => b < m) W W' :=
  ⟨h.size, fun _ _ h => h, fun b hb => by have := h.size; omega, fun b o hb ho hc => by
      by_cases hx : ∃ x ∈ L', x.1 = b
      · obtain ⟨x, hx, rfl⟩ := hx
        have ho2 := (h.obj x hx).symm.trans ho
        cases ho2
        exact hC x hx hb hc
      · exact ⟨o, by rw [← h.far b (by omega) (fun x h1 h2 => hx ⟨x, h1, h2⟩)]; exact ho, hc⟩,
    fun b hb hk => by
      rcases hk with hk | hk
      · refine h.far b hb fun x hx e => ?_
        have := hL x hx
        omega
      · by_cases hbm : b < m
        · exact hK b hk hbm
        · refine h.far b hb fun x hx e => ?_
          have := hL x hx
          omega⟩
end

class FreeF (F : Fence) : Prop where
  out : Fence.free F
instance : FreeF Fence.wide := ⟨free_wide⟩
instance (l : Nat) : FreeF (Fence.wide.inRound l) := ⟨free_round l⟩

section
variable {F : Fence} {n : Nat} {P : Program} {ops : Array Oper} {Q : Exit → Act → World → Prop} {a : Act} {W W' : World} {rest : List Oper} {o : Oper} {B G : Nat} {base : World} {L : Objs}
/-- An operation by what it runs to. -/
theorem wpListIn_val [hF : FreeF F] (hw : Region.wanted o (yielded ops a.tmps) = true) (hnd : noDefer o = true) (v : Value) (hr : (execOp a.eval o).run P W = .ok (.value v) W') (h : wpListIn F n P ops Q rest (a.put o.dst v) W') : wpListIn F n P ops Q (o :: rest) a W := by
  refine wpListIn_step fun K hK => ?_
  rw [hw, if_pos rfl]
  unfold Oper.wpIn
  refine ⟨fun f _ => hF.out.2 f, ?_⟩
  rw [Oper.semAt_plain F a.eval o (noDefer_spec hnd), hr]
  exact hK _ _ h
theorem wpListIn_skp [hF : FreeF F] (hw : Region.wanted o (yielded ops a.tmps) = true) (hnd : noDefer o = true) (hr : (execOp a.eval o).run P W = .ok .skip W') (h : wpListIn F n P ops Q rest (a.put o.dst undef) W') : wpListIn F n P ops Q (o :: rest) a W := by
  refine wpListIn_step fun K hK => ?_
  rw [hw, if_pos rfl]
  unfold Oper.wpIn
  refine ⟨fun f _ => hF.out.2 f, ?_⟩
  rw [Oper.semAt_plain F a.eval o (noDefer_spec hnd), hr]
  exact hK _ _ h

theorem own_alloc [FreeF F] (T : TypeId) (ho : o.op = .alloc T) (hw : Region.wanted o (yielded ops a.tmps) = true) (cs : Array Value) (hr : ∀ w : World, (Instr.alloc T true (.tuple #[])).run P w = .ok (.pointer (some ⟨w.heap.size, 0, none⟩)) (w.alloc (.cells cs T)))
    (OW : Hid (Own B base L W)) (OZ : Hid (W.heap.size = G ∧ B ≤ G)) (h : ∀ W2 : World, Hid (Own B base (L ++ [(G, .cells cs T (0, 0))]) W2) → Hid (W2.heap.size = G + 1 ∧ B ≤ G + 1) → wpListIn F n P ops Q rest (a.put o.dst (.pointer (some ⟨G, 0, none⟩))) W2) : wpListIn F n P ops Q (o :: rest) a W := by
  obtain ⟨z1, z2⟩ := OZ
  subst z1
  refine wpListIn_val hw (by unfold noDefer; rw [ho]) (.pointer (some ⟨W.heap.size, 0, none⟩)) (W' := W.alloc (.cells cs T)) (by unfold execOp; simp only [ho, Sem.run_bind, hr, Result.andThen_ok, Sem.run_pure]) ?_
  exact h _ (OW.alloc z2 _) ⟨by simp, by omega⟩
theorem own_box [FreeF F] (T : TypeId) (x : Operand) (ho : o.op = .box T x) (hw : Region.wanted o (yielded ops a.tmps) = true) (v : Value) (hx : a.eval x = v) (cs : Array Value) (hv : v.cells = cs)
    (OW : Hid (Own B base L W)) (OZ : Hid (W.heap.size = G ∧ B ≤ G)) (h : ∀ W2 : World, Hid (Own B base (L ++ [(G, .cells cs T (0, 0))]) W2) → Hid (W2.heap.size = G + 1 ∧ B ≤ G + 1) → wpListIn F n P ops Q rest (a.put o.dst (.pointer (some ⟨G, 0, none⟩))) W2) : wpListIn F n P ops Q (o :: rest) a W := by
  obtain ⟨z1, z2⟩ := OZ
  subst z1
  subst hv
  refine wpListIn_val hw (by unfold noDefer; rw [ho]) (.pointer (some ⟨W.heap.size, 0, none⟩)) (W' := W.alloc (.cells v.cells T)) (by unfold execOp; simp only [ho, hx, Sem.run_bind, show (Instr.box T v).run P W = .ok (.pointer (some ⟨W.heap.size, 0, none⟩)) (W.alloc (.cells v.cells T)) from rfl, Result.andThen_ok, Sem.run_pure]) ?_
  exact h _ (OW.alloc z2 _) ⟨by simp, by omega⟩
theorem run_loadVar_cell {w : World} {T : TypeId} {p : Addr} {v : Value} (hna : (isAgg T).run P w = .ok false w) (hc : w.cell? p = some v) : (loadVar T p).run P w = .ok v w := by
  unfold loadVar
  rw [Sem.run_bind, hna, Result.andThen_ok]
  simp [hc]
theorem own_load [FreeF F] (k : Nat) (T : TypeId) (x : Operand) (ho : o.op = .load T x) (hw : Region.wanted o (yielded ops a.tmps) = true) {g i : Nat} {t : TypeId} {cs : Array Value} (hk : L[k]? = some (g, .cells cs t (0, 0))) (hx : a.eval x = .pointer (some ⟨g, i, none⟩)) (v : Value) (hv : cs[i]? = some v)
    (hna : ∀ w, (isAgg T).run P w = .ok false w) (OW : Hid (Own B base L W)) (h : wpListIn F n P ops Q rest (a.put o.dst v) W) : wpListIn F n P ops Q (o :: rest) a W :=
  wpListIn_val hw (by unfold noDefer; rw [ho]) v (W' := W) (by unfold execOp; simp only [ho, hx, Instr.loadAt, Instr.sureAddr, Sem.run_bind, Sem.run_pure, Result.andThen_ok, run_loadVar_cell (hna W) (((OW.out.blk hk).cell i).trans hv)]) h
theorem own_loadRow [FreeF F] (k : Nat) (T : TypeId) (x : Operand) (ho : o.op = .load T x) (hw : Region.wanted o (yielded ops a.tmps) = true) {g : Nat} {t : TypeId} {cs : Array Value} (hk : L[k]? = some (g, .cells cs t (0, 0))) (hx : a.eval x = .pointer (some ⟨g, 0, none⟩)) (d : TypeDesc)
    (hu : P.underlying T = some d) (hd : (match d with | .struct _ | .array _ _ => true | _ => false) = true) (hi : (P.info? T).map (·.size) = some cs.size) (OW : Hid (Own B base L W)) (h : wpListIn F n P ops Q rest (a.put o.dst (.agg cs)) W) : wpListIn F n P ops Q (o :: rest) a W :=
  wpListIn_val hw (by unfold noDefer; rw [ho]) (.agg cs) (W' := W) (by unfold execOp; simp only [ho, hx, Instr.loadAt, Instr.sureAddr, Sem.run_bind, Sem.run_pure, Result.andThen_ok, run_loadVar_row W g t T cs (0, 0) d (OW.out.get hk) hu hd hi]) h
theorem own_store [FreeF F] (k : Nat) (T : TypeId) (x y : Operand) (ho : o.op = .store T x y) (hw : Region.wanted o (yielded ops a.tmps) = true) {g i : Nat} {t : TypeId} {cs : Array Value} (hk : L[k]? = some (g, .cells cs t (0, 0))) (hx : a.eval x = .pointer (some ⟨g, i, none⟩)) (v : Value) (hy : a.eval y = v) (cs' : Array Value) (hcs : cs.setIfInBounds i v = cs')
    (hi : i < cs.size) (h1 : v.oneCell' = true) (hsz : (P.info? T).map (·.size) = some 1) (L' : Objs) (hL : L.set k (g, .cells cs' t (0, 0)) = L')
    (OW : Hid (Own B base L W)) (OZ : Hid (W.heap.size = G ∧ B ≤ G)) (h : ∀ W2 : World, Hid (Own B base L' W2) → Hid (W2.heap.size = G ∧ B ≤ G) → wpListIn F n P ops Q rest (a.put o.dst undef) W2) : wpListIn F n P ops Q (o :: rest) a W := by
  subst hcs
  subst hL
  have hb := OW.out.blk hk
  have hr : (storeVar T ⟨g, i, none⟩ v).run P W = .ok () (W.setCell ⟨g, i, none⟩ v) := by
    cases hq : P.info? T with
    | none => simp [hq] at hsz
    | some inf =>
      have hs : inf.size = 1 := by simpa [hq] using hsz
      have hc : v.cells = #[v] := by cases v <;> first | rfl | simp [Value.oneCell'] at h1
      have hst : (store ⟨g, i, none⟩ v).run P W = .ok () (W.setCell ⟨g, i, none⟩ v) := by
        rw [run_store P W ⟨g, i, none⟩ v .plain h1]
        have hcell : W.cell? ⟨g, i, none⟩ = some cs[i] := (hb.cell i).trans (Array.getElem?_eq_getElem hi)
        simp [hcell, hb.frozen i]
      unfold storeVar
      simp only [sizeOf, typeInfo, hc, Sem.run_bind]
      simp [hq, hs, storeCells, Addr.add, Sem.run_bind, hst]
  refine wpListIn_skp hw (by unfold noDefer; rw [ho]) (W' := W.setCell ⟨g, i, none⟩ v) (by unfold execOp; simp only [ho, hx, hy, Instr.storeAt, Instr.sureAddr, Sem.run_bind, Sem.run_pure, Result.andThen_ok, hr]) ?_
  exact h _ (OW.out.setc hk v) ⟨by simpa [World.setCell] using OZ.out.1, OZ.out.2⟩
theorem own_storeRow [FreeF F] (k : Nat) (T : TypeId) (x y : Operand) (ho : o.op = .store T x y) (hw : Region.wanted o (yielded ops a.tmps) = true) {g : Nat} {t : TypeId} {cs : Array Value} (hk : L[k]? = some (g, .cells cs t (0, 0))) (hx : a.eval x = .pointer (some ⟨g, 0, none⟩)) (cs' : Array Value) (hy : a.eval y = .agg cs')
    (hs : cs'.size = cs.size) (h1 : cs'.all (·.oneCell') = true) (hsz : (P.info? T).map (·.size) = some cs'.size) (L' : Objs) (hL : L.set k (g, .cells cs' t (0, 0)) = L')
    (OW : Hid (Own B base L W)) (OZ : Hid (W.heap.size = G ∧ B ≤ G)) (h : ∀ W2 : World, Hid (Own B base L' W2) → Hid (W2.heap.size = G ∧ B ≤ G) → wpListIn F n P ops Q rest (a.put o.dst undef) W2) : wpListIn F n P ops Q (o :: rest) a W := by
  subst hL
  have hr := run_storeVar_row (P := P) W g t T cs cs' (OW.out.get hk) hsz hs.symm h1
  refine wpListIn_skp hw (by unfold noDefer; rw [ho]) (W' := W.setRow g cs') (by unfold execOp; simp only [ho, hx, hy, Instr.storeAt, Instr.sureAddr, Sem.run_bind, Sem.run_pure, Result.andThen_ok, hr]) ?_
  exact h _ (OW.out.setRow hk cs') ⟨by simpa using OZ.out.1, OZ.out.2⟩
/-- Behind a store that the walk has made by itself. -/
theorem own_setcN {c : Code} {k g i : Nat} {t : TypeId} {cs : Array Value} {v : Value} (hk : L[k]? = some (g, .cells cs t (0, 0))) (OW : Hid (Own B base L W)) (OZ : Hid (W.heap.size = G ∧ B ≤ G))
    (h : ∀ W2 : World, Hid (Own B base (L.set k (g, .cells (cs.setIfInBounds i v) t (0, 0))) W2) → Hid (W2.heap.size = G ∧ B ≤ G) → c.wpIn F n P Q a W2) : c.wpIn F n P Q a (W.setCell ⟨g, i, none⟩ v) :=
  h _ (OW.out.setc hk v) (And.intro (by simpa [World.setCell] using OZ.out.1) OZ.out.2)
/-- How great the heap is. -/
theorem own_size (OW : Hid (Own B base L W)) (HB : Hid (base.heap.size = B)) : ∃ G, Hid (W.heap.size = G ∧ B ≤ G) := by
  have h1 := OW.out.size
  have h2 := HB.out
  exact ⟨W.heap.size, And.intro rfl (by omega)⟩
/-- Behind a call that keeps all blocks. -/
theorem own_call (OW : Hid (Own B base L W)) (OZ : Hid (W.heap.size = G ∧ B ≤ G)) (hb : Below W.heap.size W W') : ∃ G', Hid (Own B base L W') ∧ Hid (W'.heap.size = G' ∧ B ≤ G') :=
  ⟨_, OW.out.step hb, rfl, Nat.le_trans OZ.out.2 (by rw [← OZ.out.1]; exact hb.size)⟩
end
end Go.Proofs.Ytdglhppcfdpcaaa
namespace Go.Proofs.Ytdglhppcfdpcaaa
open Go Go.RowKit Go.Shelf
set_option linter.unusedVariables false

section
variable {B : Nat} {base W W' : World} {L L' : Objs}
/-- Fewer objects, where none is older than the base. -/
theorem Own.sub (h : Own B base L W) (hB : base.heap.size ≤ B) (hs : ∀ x ∈ L', x ∈ L) (hn : L'.Pairwise (fun x y => x.1 ≠ y.1)) : Own B base L' W :=
  ⟨fun x hx => h.obj x (hs x hx), hn, fun x hx => h.lo x (hs x hx), h.os, h.tape, h.output, h.size, fun b hb _ => h.far b hb fun x hx e => by have := h.lo x hx; omega⟩
theorem Own.left {L1 L2 : Objs} (h : Own B base (L1 ++ L2) W) (hB : base.heap.size ≤ B) : Own B base L1 W :=
  h.sub hB (fun x hx => List.mem_append_left _ hx) (List.pairwise_append.1 h.nd).1
theorem Own.done (h : Own B base L W) (hB : Hid (base.heap.size = B)) : Below base.heap.size base W := by
  have := hB.out
  subst this
  exact h.below (Nat.le_refl _)
/-- In another order. -/
theorem Own.perm (h : Own B base L W) (hp : L.Perm L') : Own B base L' W :=
  ⟨fun x hx => h.obj x (hp.mem_iff.2 hx), hp.pairwise h.nd (fun h => Ne.symm h), fun x hx => h.lo x (hp.mem_iff.2 hx), h.os, h.tape, h.output, h.size, fun b hb hn => h.far b hb fun x hx => hn x (hp.mem_iff.1 hx)⟩
theorem Own.sublist (h : Own B base L W) (hB : base.heap.size ≤ B) (hs : L'.Sublist L) : Own B base L' W := h.sub hB (fun _ hx => hs.subset hx) (h.nd.sublist hs)
/-- A loop's mark goes to the marks; what it was called with goes. -/
theorem Own.mark {A M E : Objs} {m : Nat × Obj} (h : Own B base (A ++ M ++ E ++ [m]) W) (hB : Hid (base.heap.size = B)) : Own B base (A ++ m :: M) W := by
  have h1 : Own B base (A ++ M ++ [m]) W := h.sublist (Nat.le_of_eq hB.out) (List.Sublist.append (List.sublist_append_left _ _) (List.Sublist.refl _))
  refine h1.perm ?_
  rw [List.append_assoc]
  exact List.Perm.append_left A (List.perm_append_comm)
end

abbrev markD (D : Nat) : Deferred := { target := .collected D, args := #[] }
abbrev markO (D : Nat) : Nat × Obj := (D, .deferred (some []))

/-- The way out: the marks are shut one by one. -/
theorem leaves_own {F : Fence} {n : Nat} {P : Program} {fn : Func} {tmps : Array Value} {R : Ending → World → Prop} {B : Nat} {w : World} {L : Objs} : ∀ (Ds : List Nat) (W : World), w.heap.size ≤ B → Own B w (L ++ Ds.map markO) W →
    (∀ W', Own B w L W' → ∃ v, (results fn tmps).run P W' = .ok v W' ∧ R (.returned v) W') → LeavesInM F n P fn tmps R (Ds.map markD) .returning W
  | [], W, _, hO, h => h W (by simpa using hO)
  | D :: Ds, W, hB, hO, h => by
    have hk : (L ++ (D :: Ds).map markO)[L.length]? = some (markO D) := by rw [List.getElem?_append_right (Nat.le_refl _), Nat.sub_self]; rfl
    have hg := hO.get hk
    refine ⟨by simp, .inl ⟨D, _, rfl, run_takeDeferred hg, ?_⟩⟩
    refine leaves_own Ds _ hB ?_ h
    have h2 := hO.putObj hk (.deferred none)
    rw [List.set_append_right _ _ (Nat.le_refl _), Nat.sub_self, List.map_cons, List.set_cons_zero] at h2
    refine h2.sub hB (fun x hx => ?_) ?_
    · rcases List.mem_append.1 hx with hx | hx
      · exact List.mem_append_left _ hx
      · exact List.mem_append_right _ (List.mem_cons_of_mem _ hx)
    · have h3 := List.pairwise_append.1 h2.nd
      exact List.pairwise_append.2 ⟨h3.1, (List.pairwise_cons.1 h3.2.1).2, fun x hx y hy => h3.2.2 x hx y (List.mem_cons_of_mem _ hy)⟩

/-- The result's cell, at the way out. -/
theorem results_own {P : Program} {fn : Func} {tmps : Array Value} {B : Nat} {base W : World} {L : Objs} (hO : Own B base L W) (k : Nat) {p : Tmp} {ty : TypeId} (h : fn.results = #[.cell p ty]) {g : Nat} {t : TypeId} {cs : Array Value} (hk : L[k]? = some (g, .cells cs t (0, 0)))
    (hp : tmps.getD p undef = .pointer (some ⟨g, 0, none⟩)) {v : Value} (hv : cs[0]? = some v) (hna : ∀ w, (isAgg ty).run P w = .ok false w) : (results fn tmps).run P W = .ok v W := by
  have hp' : tmps[p]?.getD undef = .pointer (some ⟨g, 0, none⟩) := by simpa using hp
  simp [results, h, hp', asAddr, run_loadVar_cell (hna W) (((hO.blk hk).cell 0).trans hv)]

/-- The same, where the result is an array or a struct. -/
theorem results_ownRow {P : Program} {fn : Func} {tmps : Array Value} {B : Nat} {base W : World} {L : Objs} (hO : Own B base L W) (k : Nat) {p : Tmp} {ty : TypeId} (h : fn.results = #[.cell p ty]) {g : Nat} {t : TypeId} {cs : Array Value} (hk : L[k]? = some (g, .cells cs t (0, 0)))
    (hp : tmps.getD p undef = .pointer (some ⟨g, 0, none⟩)) {d : TypeDesc} (hu : P.underlying ty = some d) (hd : (match d with | .struct _ | .array _ _ => true | _ => false) = true) (hi : (P.info? ty).map (·.size) = some cs.size) : (results fn tmps).run P W = .ok (.agg cs) W :=
  results_cell_row h tmps W g t cs (0, 0) d hp (hO.get hk) hu hd hi
/-- What a round leaves behind. -/
def OwnNext (B : Nat) (K : Nat → Prop) (W1 : World) (Ls : Objs) (Rel : Objs → Prop) (W' : World) : Prop :=
  ∃ Lend Ls', Own B W1 Lend W' ∧ (∀ y ∈ Ls', y ∈ Lend) ∧ Ls'.Pairwise (fun x y => x.1 ≠ y.1) ∧ Rel Ls' ∧ (∀ y ∈ Lend, (∃ x ∈ Ls, x.1 = y.1) ∨ W1.heap.size ≤ y.1) ∧ (∀ x ∈ Ls, ∃ y ∈ Lend, y.1 = x.1) ∧
    (∀ b, K b → b < B ∨ ∃ x, x ∈ Ls ∧ x ∈ Lend ∧ x.1 = b) ∧ (∀ y ∈ Lend, y.2.isCells = true ∨ ∃ x ∈ Ls, x.1 = y.1 ∧ x.2.isCells = false)
/-- The same blocks, and new ones. -/
theorem OwnNext.mkB {B : Nat} {K : Nat → Prop} {W1 : World} {Ls L1 E : Objs} {Rel : Objs → Prop} {W' : World} (h : Own B W1 (L1 ++ E) W') (hE : ∀ x ∈ E, W1.heap.size ≤ x.1) (hs : L1.map (·.1) = Ls.map (·.1)) (hr : Rel L1)
    (hK : ∀ b, K b → b < B ∨ ∃ x, x ∈ Ls ∧ x ∈ L1 ∧ x.1 = b) (hc : ∀ y ∈ L1 ++ E, y.2.isCells = true ∨ ∃ x ∈ Ls, x.1 = y.1 ∧ x.2.isCells = false) : OwnNext B K W1 Ls Rel W' := by
  have m1 : ∀ {A C : Objs}, A.map (·.1) = C.map (·.1) → ∀ x ∈ A, ∃ y ∈ C, y.1 = x.1 := fun {A C} e x hx => by
    have : x.1 ∈ C.map (·.1) := by rw [← e]; exact List.mem_map_of_mem hx
    obtain ⟨y, hy, e⟩ := List.mem_map.1 this
    exact ⟨y, hy, e⟩
  refine ⟨L1 ++ E, L1, h, fun y hy => List.mem_append_left _ hy, (List.pairwise_append.1 h.nd).1, hr, fun y hy => ?_, fun x hx => ?_, fun b hb => ?_, hc⟩
  · rcases List.mem_append.1 hy with hy | hy
    · exact .inl (m1 hs y hy)
    · exact .inr (hE y hy)
  · obtain ⟨y, hy, e⟩ := m1 hs.symm x hx
    exact ⟨y, List.mem_append_left _ hy, e⟩
  · rcases hK b hb with h | ⟨x, h1, h2, h3⟩
    · exact .inl h
    · exact .inr ⟨x, h1, List.mem_append_left _ h2, h3⟩
/-- The same blocks, marks among them, and new ones. -/
theorem OwnNext.mk3B {B : Nat} {K : Nat → Prop} {W1 : World} {A A' M C C' : Objs} (E : Objs) {Rel : Objs → Prop} {W' : World} (h : Own B W1 (A' ++ M ++ C' ++ E) W') (hE : ∀ x ∈ E, W1.heap.size ≤ x.1) (hs : A'.map (·.1) = A.map (·.1)) (hs2 : C'.map (·.1) = C.map (·.1)) (hr : Rel (A' ++ M ++ C'))
    (hK : ∀ b, K b → b < B ∨ ∃ x, x ∈ A ++ M ++ C ∧ x ∈ A' ++ M ++ C' ∧ x.1 = b) (hA : (A'.all fun y => y.2.isCells) = true) (hC : (C'.all fun y => y.2.isCells) = true) (hEc : (E.all fun y => y.2.isCells) = true) : OwnNext B K W1 (A ++ M ++ C) Rel W' := by
  refine OwnNext.mkB h hE (by simp [hs, hs2]) hr hK fun y hy => ?_
  simp only [List.mem_append] at hy
  rcases hy with ((h1 | h1) | h1) | h1
  · exact .inl (List.all_eq_true.1 hA y h1)
  · cases hc : y.2.isCells with
    | true => exact .inl rfl
    | false => exact .inr ⟨y, by simp [h1], rfl, hc⟩
  · exact .inl (List.all_eq_true.1 hC y h1)
  · exact .inl (List.all_eq_true.1 hEc y h1)
theorem OwnNext.mk' {B : Nat} {K : Nat → Prop} {W1 : World} {Ls L1 E : Objs} {Rel : Objs → Prop} {W' : World} (h : Own B W1 (L1 ++ E) W') (hE : ∀ x ∈ E, W1.heap.size ≤ x.1) (hs : L1.map (·.1) = Ls.map (·.1)) (hr : Rel L1)
    (hK : ∀ b, K b → ∃ x, x ∈ Ls ∧ x ∈ L1 ∧ x.1 = b) (hc : ∀ y ∈ L1 ++ E, y.2.isCells = true ∨ ∃ x ∈ Ls, x.1 = y.1 ∧ x.2.isCells = false) : OwnNext B K W1 Ls Rel W' :=
  OwnNext.mkB h hE hs hr (fun b hb => .inr (hK b hb)) hc
theorem OwnNext.mk3 {B : Nat} {K : Nat → Prop} {W1 : World} {A A' M C C' : Objs} (E : Objs) {Rel : Objs → Prop} {W' : World} (h : Own B W1 (A' ++ M ++ C' ++ E) W') (hE : ∀ x ∈ E, W1.heap.size ≤ x.1) (hs : A'.map (·.1) = A.map (·.1)) (hs2 : C'.map (·.1) = C.map (·.1)) (hr : Rel (A' ++ M ++ C'))
    (hK : ∀ b, K b → ∃ x, x ∈ A ++ M ++ C ∧ x ∈ A' ++ M ++ C' ∧ x.1 = b) (hA : (A'.all fun y => y.2.isCells) = true) (hC : (C'.all fun y => y.2.isCells) = true) (hEc : (E.all fun y => y.2.isCells) = true) : OwnNext B K W1 (A ++ M ++ C) Rel W' :=
  OwnNext.mk3B E h hE hs hs2 hr (fun b hb => .inr (hK b hb)) hA hC hEc
def ownEnd (B : Nat) (K : Nat → Prop) (W1 : World) (Ls : Objs) (Rel : Objs → Prop) (Rx : Code → Objs → Prop) : Exit → Act → World → Prop
  | .normal, _, W' => OwnNext B K W1 Ls Rel W'
  | .ret, _, W' => OwnNext B K W1 Ls (Rx .ret) W'
  | .exit id, _, W' => OwnNext B K W1 Ls (Rx (.exit id)) W'
  | .goto t, _, W' => OwnNext B K W1 Ls (Rx (.goto t)) W'
  | .panic _, _, _ => False
  | .outgrown, _, _ => False

/-- The set of the caller's blocks. -/
def ownSet (m : Nat) (Ls : Objs) (b : Nat) : Prop := b < m ∨ ∃ x ∈ Ls, x.1 = b
theorem OwnNext.grow {B m : Nat} {K : Nat → Prop} {w W1 W' : World} {Ls : Objs} {Rel : Objs → Prop} (h : OwnNext B K W1 Ls Rel W') (hw : w.heap.size = B) (hO : Own B w Ls W1) (hm : m ≤ W1.heap.size) :
    ∃ Ls', Rel Ls' ∧ Own B w Ls' W' ∧ Grow K (ownSet m Ls) (ownSet m Ls') W1 W' := by
  obtain ⟨Lend, Ls', h1, h2, h3, h4, h5, h6, h7, h8⟩ := h
  refine ⟨Ls', h4, ((hO.trans h1 h6).sub (by omega) h2 h3), ⟨h1.size, ?_, ?_, ?_, ?_⟩⟩
  · rintro b hb (h | ⟨y, hy, rfl⟩)
    · exact .inl h
    · rcases h5 y (h2 y hy) with ⟨x, hx, e⟩ | h
      · exact .inr ⟨x, hx, e⟩
      · omega
  · rintro b (h | ⟨y, hy, rfl⟩)
    · have := h1.size; omega
    · exact h1.lt (h2 y hy)
  · rintro b o hb ho hc
    by_cases hy : ∃ y ∈ Lend, y.1 = b
    · obtain ⟨y, hy, rfl⟩ := hy
      have h9 := (h1.obj y hy).symm.trans ho
      cases h9
      rcases h8 y hy with h | ⟨x, hx, e1, e2⟩
      · rw [h] at hc; cases hc
      · exact ⟨x.2, by rw [← e1]; exact hO.obj x hx, e2⟩
    · have hbm : b < W1.heap.size := by
        rcases hb with h | ⟨y, hy2, e⟩
        · omega
        · exact (hy ⟨y, h2 y hy2, e⟩).elim
      exact ⟨o, (h1.far b hbm fun y hy2 e => hy ⟨y, hy2, e⟩).symm.trans ho, hc⟩
  · intro b hb hk
    rcases hk with hk | hk
    · refine h1.far b hb fun y hy e => ?_
      rcases h5 y hy with ⟨x, hx, e2⟩ | h
      · exact hk (.inr ⟨x, hx, e2.trans e⟩)
      · omega
    · rcases h7 b hk with hlo | ⟨x, hx1, hx2, rfl⟩
      · exact h1.far b hb fun y hy e => by have := h1.lo y hy; omega
      · exact (h1.obj x hx2).trans (hO.obj x hx1).symm

/-- What stands between the rounds. -/
def ownInv (B m : Nat) (w : World) (Rel : Nat → Objs → Prop) (i : Nat) (O : Nat → Prop) (W : World) : Prop :=
  ∃ Ls, Rel i Ls ∧ O = ownSet m Ls ∧ Own B w Ls W ∧ m ≤ W.heap.size
theorem ownInv.stay {B m : Nat} {w : World} {Rel : Nat → Objs → Prop} (hm : w.heap.size ≤ m) : StayO (ownInv B m w Rel) := by
  rintro i O W W' ⟨Ls, h1, rfl, h3, h4⟩ t
  exact ⟨Ls, h1, rfl, h3.turn t (fun x hx => .inr ⟨x, hx, rfl⟩) (fun b hb => .inl (by omega)), Nat.le_trans h4 t.size⟩

theorem own_iterB {α : Type} {F : Fence} {n : Nat} {P : Program} {g : Operand} {ps : Array Tmp} {assign body : Code} {Q : Exit → Act → World → Prop} {a : Act} {W : World}
    (hro : F.round = none) (h1 : 1 ≤ n) {gf : Nat} {lb : Array Value} (hg : a.eval g = .func (.func gf) #[] lb) (hFg : F.fn gf) (eg : ∀ args w, (callFunc gf args).run P w = .ok (.enter gf args) w)
    {encs : α → Array Value} {xs : List α} {K : Nat → Prop} {St : World → Prop} (hit : Iter3 F (n - 1) P gf lb encs xs (fun _ => False) K St)
    {B m : Nat} {w : World} (hw : w.heap.size = B) (Rel : Nat → Objs → Prop) (Rx : Code → Nat → Objs → Prop) {Ls0 : Objs} (h0 : Rel 0 Ls0) (OW : Hid (Own B w Ls0 W)) (OZ : Hid (W.heap.size = m ∧ B ≤ m))
    (hSt : ∀ W', (∀ b, b < W.heap.size → W'.heap[b]? = W.heap[b]?) → St W') (hK : ∀ b, K b → b < B ∨ ∃ x ∈ Ls0, x.1 = b) (hps : ∀ x, (encs x).size = ps.size) (a₁ : α → Act)
    (hassign : ∀ (l : Nat) (x : α) (W : World) (Kt : Act → World → Prop), Kt (a₁ x) W →
      assign.wpIn (F.inRound l) (n - 1 - 1) P (Exit.then Kt (fun _ _ _ => False)) { tmps := (ps.zip (encs x)).foldl (fun t (p, v) => t.setIfInBounds p v) a.tmps, defers := [] } W)
    (hbody : ∀ (l i : Nat) (x : α) (Ls : Objs) (W1 : World) (G1 : Nat), xs[i]? = some x → Rel i Ls → Hid (Own B w Ls W1) → Hid (Own B W1 Ls W1) → Hid (W1.heap.size = G1 ∧ B ≤ G1) → Hid (m + 2 ≤ G1) →
      body.wpIn (F.inRound l) (n - 1 - 1) P (ownEnd B K W1 Ls (Rel (i + 1)) (fun c => Rx c (i + 1))) (a₁ x) W1)
    (hdone : ∀ (D : Nat) (Ls : Objs) (W2 : World) (G2 : Nat), Rel xs.length Ls → Hid (Own B w (Ls ++ [markO D]) W2) → Hid (W2.heap.size = G2 ∧ B ≤ G2) → Q .normal { a with defers := markD D :: a.defers } W2)
    (hstop : ∀ (D : Nat) (c : Code) (i : Nat) (Ls : Objs) (W2 : World) (G2 : Nat), i < xs.length → Rx c (i + 1) Ls → Hid (Own B w (Ls ++ [markO D]) W2) → Hid (W2.heap.size = G2 ∧ B ≤ G2) → c.wpIn F n P Q { a with defers := markD D :: a.defers } W2) :
    (Code.rangeFunc g ps assign body).wpIn F n P Q a W := by
  obtain ⟨z1, z2⟩ := OZ
  have hlt : ∀ x ∈ Ls0, x.1 < m := fun x hx => by have := OW.out.lt hx; omega
  have hset : ownSet m Ls0 = fun b => b < m := by
    funext b
    refine propext ⟨fun h => ?_, fun h => .inl h⟩
    rcases h with h | ⟨x, hx, rfl⟩
    · exact h
    · exact hlt x hx
  have fin : ∀ (D : Nat) (O1 : Nat → Prop) (Ls : Objs) (W2 : World), W.heap.size ≤ D → ¬ O1 D → O1 = ownSet m Ls → Own B w Ls W2 → W2.heap[D]? = some (.deferred (some [])) → Own B w (Ls ++ [markO D]) W2 := by
    rintro D O1 Ls W2 hD hn rfl h hd
    refine ⟨?_, ?_, ?_, h.os, h.tape, h.output, h.size, fun b hb hx => h.far b hb fun x hx2 => hx x (List.mem_append_left _ hx2)⟩
    · intro x hx
      rcases List.mem_append.1 hx with hx | hx
      · exact h.obj x hx
      · obtain rfl := List.mem_singleton.1 hx; exact hd
    · refine List.pairwise_append.2 ⟨h.nd, List.pairwise_singleton _ _, fun x hx y hy e => ?_⟩
      obtain rfl := List.mem_singleton.1 hy
      exact hn (.inr ⟨x, hx, e⟩)
    · intro x hx
      rcases List.mem_append.1 hx with hx | hx
      · exact h.lo x hx
      · obtain rfl := List.mem_singleton.1 hx
        show B ≤ D
        omega
  refine iter_law3 (n := n) hro h1 hg hFg eg hit (ownSet m Ls0) hSt (fun b hb => ?_) (fun _ h => h.elim) (fun b hb => ?_) hps (ownInv B m w Rel) (fun c => ownInv B m w (Rx c)) (ownInv.stay (by omega)) (fun c => ownInv.stay (by omega)) ⟨Ls0, h0, rfl, OW.out, by omega⟩ a₁ hassign ?_ ?_ ?_
  · rw [hset] at hb; have hb' : b < m := hb; omega
  · rcases hK b hb with h | ⟨x, hx, rfl⟩
    · omega
    · have := hlt x hx; omega
  · rintro l i x O1 W1 hx hs ⟨Ls, hr, rfl, hO, hm⟩
    have hb := hbody l i x Ls W1 W1.heap.size hx hr hO hO.rebase ⟨rfl, by omega⟩ (by show m + 2 ≤ _; omega)
    refine wpIn_mono hb ?_
    have key : ∀ (Rl : Nat → Objs → Prop) (W' : World), OwnNext B K W1 Ls (Rl (i + 1)) W' → ∃ O', Grow K (ownSet m Ls) O' W1 W' ∧ ownInv B m w Rl (i + 1) O' W' := fun Rl W' h => by
      obtain ⟨Ls', e1, e2, e3⟩ := h.grow hw hO hm
      exact ⟨_, e3, Ls', e1, rfl, e2, Nat.le_trans hm e3.size⟩
    intro e a' W' h
    cases e with
    | normal => exact key Rel W' h
    | ret => exact key (Rx .ret) W' h
    | exit id => exact key (Rx (.exit id)) W' h
    | goto t => exact key (Rx (.goto t)) W' h
    | panic c => exact h.elim
    | outgrown => exact h.elim
  · rintro D O1 W2 hD hn ⟨Ls, hr, he, hO, hm⟩ hd
    exact hdone D Ls W2 _ hr (fin D O1 Ls W2 hD hn he hO hd) ⟨rfl, by omega⟩
  · rintro D c i O1 W2 hD hn hi ⟨Ls, hr, he, hO, hm⟩ hd
    exact hstop D c i Ls W2 _ hi hr (fin D O1 Ls W2 hD hn he hO hd) ⟨rfl, by omega⟩

theorem own_iter {α : Type} {F : Fence} {n : Nat} {P : Program} {g : Operand} {ps : Array Tmp} {assign body : Code} {Q : Exit → Act → World → Prop} {a : Act} {W : World}
    (hro : F.round = none) (h1 : 1 ≤ n) {gf : Nat} {lb : Array Value} (hg : a.eval g = .func (.func gf) #[] lb) (hFg : F.fn gf) (eg : ∀ args w, (callFunc gf args).run P w = .ok (.enter gf args) w)
    {encs : α → Array Value} {xs : List α} {K : Nat → Prop} {St : World → Prop} (hit : Iter3 F (n - 1) P gf lb encs xs (fun _ => False) K St)
    {B m : Nat} {w : World} (hw : w.heap.size = B) (Rel : Nat → Objs → Prop) (Rx : Code → Nat → Objs → Prop) {Ls0 : Objs} (h0 : Rel 0 Ls0) (OW : Hid (Own B w Ls0 W)) (OZ : Hid (W.heap.size = m ∧ B ≤ m))
    (hSt : ∀ W', (∀ b, b < W.heap.size → W'.heap[b]? = W.heap[b]?) → St W') (hK : ∀ b, K b → ∃ x ∈ Ls0, x.1 = b) (hps : ∀ x, (encs x).size = ps.size) (a₁ : α → Act)
    (hassign : ∀ (l : Nat) (x : α) (W : World) (Kt : Act → World → Prop), Kt (a₁ x) W →
      assign.wpIn (F.inRound l) (n - 1 - 1) P (Exit.then Kt (fun _ _ _ => False)) { tmps := (ps.zip (encs x)).foldl (fun t (p, v) => t.setIfInBounds p v) a.tmps, defers := [] } W)
    (hbody : ∀ (l i : Nat) (x : α) (Ls : Objs) (W1 : World) (G1 : Nat), xs[i]? = some x → Rel i Ls → Hid (Own B w Ls W1) → Hid (Own B W1 Ls W1) → Hid (W1.heap.size = G1 ∧ B ≤ G1) → Hid (m + 2 ≤ G1) →
      body.wpIn (F.inRound l) (n - 1 - 1) P (ownEnd B K W1 Ls (Rel (i + 1)) (fun c => Rx c (i + 1))) (a₁ x) W1)
    (hdone : ∀ (D : Nat) (Ls : Objs) (W2 : World) (G2 : Nat), Rel xs.length Ls → Hid (Own B w (Ls ++ [markO D]) W2) → Hid (W2.heap.size = G2 ∧ B ≤ G2) → Q .normal { a with defers := markD D :: a.defers } W2)
    (hstop : ∀ (D : Nat) (c : Code) (i : Nat) (Ls : Objs) (W2 : World) (G2 : Nat), i < xs.length → Rx c (i + 1) Ls → Hid (Own B w (Ls ++ [markO D]) W2) → Hid (W2.heap.size = G2 ∧ B ≤ G2) → c.wpIn F n P Q { a with defers := markD D :: a.defers } W2) :
    (Code.rangeFunc g ps assign body).wpIn F n P Q a W :=
  own_iterB hro h1 hg hFg eg hit hw Rel Rx h0 OW OZ hSt (fun b hb => .inr (hK b hb)) hps a₁ hassign hbody hdone hstop

/-- An element of an array. -/
theorem run_index_agg {P : Program} {t e : TypeId} {n : Nat} {cs : Array Value} {k : IntKind} {i : Nat} {v : Value} {w : World} (h : P.underlying t = some (.array n e)) (hi : i < n) (hna : ∀ w, (isAgg e).run P w = .ok false w) (hsz : (P.info? e).map (·.size) = some 1) (hv : cs[i]? = some v) :
    (Instr.index t (.agg cs) (.int k (i : Int))).run P w = .ok v w := by
  cases hq : P.info? e with
  | none => simp [hq] at hsz
  | some inf =>
    have hs : inf.size = 1 := by simpa [hq] using hsz
    unfold Instr.index
    simp [asIntOf, Sem.run_bind, run_underlying h, sizeOf, typeInfo, hq, hs, part, hna, hv, hi]

/-- Values put into slots. -/
def putSlots : List Nat → (Nat → Value) → Array Value → Array Value
  | [], _, t => t
  | s :: ss, f, t => putSlots ss f (t.setIfInBounds s (f s))
theorem putSlots_same (f : Nat → Value) (t : Array Value) (hf : ∀ s, f s = t.getD s undef) : ∀ l : List Nat, putSlots l f t = t
  | [] => rfl
  | s :: ss => by
    have h := put_same ⟨t, []⟩ (some s) (f s) (fun d e => by cases e; exact (hf s).symm)
    have h2 : t.setIfInBounds s (f s) = t := congrArg Act.tmps h
    unfold putSlots
    rw [h2]
    exact putSlots_same f t hf ss
/-- A round of a loop whose rounds may leave marks has ended. -/
def MarksEnd (slots : List Nat) (t0 : Array Value) (Rel : (Nat → Value) → List Nat → World → Prop) (μ : (Nat → Value) → Nat) (m : Nat) (a' : Act) (w' : World) : Prop :=
  ∃ Ds', a'.defers = Ds'.map markD ∧ a'.tmps = putSlots slots (fun s => a'.tmps.getD s undef) t0 ∧ Rel (fun s => a'.tmps.getD s undef) Ds' w' ∧ μ (fun s => a'.tmps.getD s undef) < m
theorem wpIn_loop_marks {F : Fence} {n : Nat} {P : Program} {c : Code} {Q : Exit → Act → World → Prop} {a : Act} {w : World} (slots : List Nat) (Rel : (Nat → Value) → List Nat → World → Prop) (μ : (Nat → Value) → Nat) (Ds0 : List Nat) (hd0 : a.defers = Ds0.map markD)
    (h0 : Rel (fun s => a.tmps.getD s undef) Ds0 w)
    (round : ∀ (f : Nat → Value) (Ds : List Nat) (wr : World), Rel f Ds wr → c.wpIn F n P (Exit.then (MarksEnd slots a.tmps Rel μ (μ f)) Q) ⟨putSlots slots f a.tmps, Ds.map markD⟩ wr) : (Code.loop c).wpIn F n P Q a w := by
  refine wpIn_loop (fun a' w' => ∃ f Ds, a' = ⟨putSlots slots f a.tmps, Ds.map markD⟩ ∧ Rel f Ds w' ∧ μ f = μ (fun s => a'.tmps.getD s undef)) (fun a' _ => μ (fun s => a'.tmps.getD s undef)) ?_ ?_
  · refine ⟨_, Ds0, ?_, h0, rfl⟩
    rw [putSlots_same _ _ (fun _ => rfl), ← hd0]
  · rintro a' wr ⟨f, Ds, rfl, hr, hm⟩
    refine wpIn_mono (round f Ds wr hr) ?_
    intro e a2 w2 h
    cases e with
    | normal =>
      obtain ⟨Ds', h1, h2, h3, h4⟩ := h
      refine ⟨⟨_, Ds', ?_, h3, rfl⟩, by show μ _ < μ _; rw [← hm]; exact h4⟩
      rw [← h2, ← h1]
    | ret => exact h
    | exit id => exact h
    | goto t => exact h
    | panic c => exact h
    | outgrown => exact h
end Go.Proofs.Ytdglhppcfdpcaaa
namespace Go.Proofs.Ytdglhppcfdpcaaa
open Go Go.RowKit
theorem naInt : ∀ w, (isAgg 3).run Try.prog w = .ok false w := fun _ => by kernel_rfl
theorem naBool : ∀ w, (isAgg 4).run Try.prog w = .ok false w := fun _ => by kernel_rfl
theorem naU8 : ∀ w, (isAgg 5).run Try.prog w = .ok false w := fun _ => by kernel_rfl
theorem szInt : (Try.prog.info? 3).map (·.size) = some 1 := by kernel_rfl
theorem szBool : (Try.prog.info? 4).map (·.size) = some 1 := by kernel_rfl
theorem szU8 : (Try.prog.info? 5).map (·.size) = some 1 := by kernel_rfl
theorem alInt : ∀ w : World, (Instr.alloc 3 true (.tuple #[])).run Try.prog w = .ok (.pointer (some ⟨w.heap.size, 0, none⟩)) (w.alloc (.cells #[.int .i64 0] 3)) := fun _ => by kernel_rfl
theorem alBool : ∀ w : World, (Instr.alloc 4 true (.tuple #[])).run Try.prog w = .ok (.pointer (some ⟨w.heap.size, 0, none⟩)) (w.alloc (.cells #[.bool false] 4)) := fun _ => by kernel_rfl
theorem alU8 : ∀ w : World, (Instr.alloc 5 true (.tuple #[])).run Try.prog w = .ok (.pointer (some ⟨w.heap.size, 0, none⟩)) (w.alloc (.cells #[.int .u8 0] 5)) := fun _ => by kernel_rfl
end Go.Proofs.Ytdglhppcfdpcaaa
