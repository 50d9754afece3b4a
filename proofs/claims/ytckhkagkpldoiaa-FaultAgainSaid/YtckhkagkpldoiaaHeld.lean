/- A region that draws its order: each operation is shown once, at any world that the region may have reached; what is known of each value must stay true. One proof serves every order. No program in sight. -/
import Derived.Test.YtckhkagkpldoiaaQTail
import Derived.Shelf.Abstract
import Derived.Below
import Derived.Laws.Small
import Derived.Laws.Rows
namespace Go.Proofs.Ytckhkagkpldoiaa
open Go Go.RowKit Go.Shelf

/-- The values xs put into the slots of the operations. -/
def putsH (xs : Nat → Value) : List Oper → Nat → Act → Act
  | [], _, a => a
  | o :: os, k, a => putsH xs os (k + 1) (a.put o.dst (xs k))
def apartS (x y : Option Tmp) : Bool := match x, y with | some a, some b => a != b | _, _ => true
def slotsB : List Oper → Bool
  | [] => true
  | o :: os => (os.all fun p => apartS o.dst p.dst) && slotsB os
theorem apartS_spec {x y : Option Tmp} (h : apartS x y = true) : ∀ d, x = some d → y ≠ some d := by
  rintro d rfl rfl
  simp [apartS] at h
theorem put_put (a : Act) (x : Option Tmp) (v u : Value) : (a.put x v).put x u = a.put x u := by
  cases x with
  | none => rfl
  | some d => simp [Act.put]
theorem putsH_congr {xs ys : Nat → Value} : ∀ (l : List Oper) (k : Nat) (a : Act), (∀ j, k ≤ j → j < k + l.length → xs j = ys j) → putsH xs l k a = putsH ys l k a
  | [], _, _, _ => rfl
  | o :: os, k, a, h => by
    unfold putsH
    rw [h k (Nat.le_refl _) (by rw [List.length_cons]; omega)]
    exact putsH_congr os (k + 1) _ fun j h1 h2 => h j (by omega) (by rw [List.length_cons]; omega)
theorem putsH_put {xs : Nat → Value} (x : Option Tmp) (v : Value) : ∀ (l : List Oper) (k : Nat) (a : Act), (l.all fun p => apartS x p.dst) = true → (putsH xs l k a).put x v = putsH xs l k (a.put x v)
  | [], _, _, _ => rfl
  | o :: os, k, a, h => by
    simp only [List.all_cons, Bool.and_eq_true] at h
    unfold putsH
    rw [putsH_put x v os (k + 1) _ h.2, Act.put_comm a v (xs k) (apartS_spec h.1)]
theorem putsH_set {xs : Nat → Value} (v : Value) : ∀ (l : List Oper) (k : Nat) (a : Act) (i : Nat) (o : Oper), slotsB l = true → l[i]? = some o →
    (putsH xs l k a).put o.dst v = putsH (fun j => if j = k + i then v else xs j) l k a
  | [], _, _, i, _, _, h => by simp at h
  | p :: os, k, a, 0, o, hs, h => by
    simp only [slotsB, Bool.and_eq_true] at hs
    simp only [List.getElem?_cons_zero, Option.some.injEq] at h
    subst h
    unfold putsH
    rw [putsH_put _ _ _ _ _ hs.1, put_put, if_pos (show k = k + 0 from rfl)]
    exact putsH_congr os (k + 1) _ fun j h1 _ => by rw [if_neg (by omega)]
  | p :: os, k, a, i + 1, o, hs, h => by
    simp only [slotsB, Bool.and_eq_true] at hs
    rw [List.getElem?_cons_succ] at h
    unfold putsH
    rw [putsH_set v os (k + 1) _ i o hs.2 h, if_neg (by omega)]
    exact putsH_congr os (k + 1) _ fun j _ _ => by rw [show k + 1 + i = k + (i + 1) by omega]
/-- What lies in the slots as the region begins. -/
def firstX (l : List Oper) (a : Act) (j : Nat) : Value := match (l[j]?).bind (·.dst) with | some d => a.tmps.getD d undef | none => undef
theorem put_same (a : Act) (x : Option Tmp) (v : Value) (h : ∀ d, x = some d → a.tmps.getD d undef = v) : a.put x v = a := by
  cases x with
  | none => rfl
  | some d =>
    have := h d rfl
    subst this
    have e : a.tmps.setIfInBounds d (a.tmps.getD d undef) = a.tmps := by
      rcases Nat.lt_or_ge d a.tmps.size with h | h
      · apply Array.ext_getElem?
        intro i
        rw [Array.getElem?_setIfInBounds]
        split
        · rename_i e; subst e
          simp [h]
        · rfl
      · exact Array.setIfInBounds_eq_of_size_le h
    show ({ a with tmps := a.tmps.setIfInBounds d (a.tmps.getD d undef) } : Act) = a
    rw [e]
theorem putsH_first {xs : Nat → Value} : ∀ (l : List Oper) (k : Nat) (a : Act), (∀ i o d, l[i]? = some o → o.dst = some d → xs (k + i) = a.tmps.getD d undef) → putsH xs l k a = a
  | [], _, _, _ => rfl
  | o :: os, k, a, h => by
    unfold putsH
    rw [put_same a o.dst (xs k) (fun d hd => (h 0 o d rfl hd).symm)]
    exact putsH_first os (k + 1) a fun i p d hp hd => by rw [← h (i + 1) p d (by simpa using hp) hd]; congr 1; omega

/-- Each dependency is waited for, or is one of what is waited for. -/
def depsB (md : Region.Mode) (ops : Array Oper) (N : Nat) (D : Nat → List Nat) : Bool :=
  (List.range N).all fun i => (D i).all fun j => decide (j < N) && ((ops[i]?).map fun o => o.after.any fun e => Region.binds md e && (e.on == j || (decide (e.on < N) && (D e.on).contains j))).getD false
def cntH (listed : Array Bool) : Nat → Nat
  | 0 => 0
  | k + 1 => cntH listed k + if listed.getD k true = true then 0 else 1
theorem cntH_ge {listed : Array Bool} {i : Nat} : ∀ k, k ≤ i → cntH (listed.setIfInBounds i true) k = cntH listed k
  | 0, _ => rfl
  | k + 1, h => by
    unfold cntH
    rw [cntH_ge k (by omega), getD_set_ne true (by omega)]
theorem cntH_set {listed : Array Bool} {i : Nat} (hi : listed.getD i true = false) : ∀ k, i < k → cntH (listed.setIfInBounds i true) k + 1 = cntH listed k
  | 0, h => by omega
  | k + 1, h => by
    unfold cntH
    by_cases e : i = k
    · subst e
      have hs : (listed.setIfInBounds i true).getD i true = true := by
        rcases Nat.lt_or_ge i listed.size with h' | h'
        · simp [h']
        · simp [Array.getElem?_eq_none h'] at hi
      rw [cntH_ge i (Nat.le_refl _), hi, hs]
      simp
    · rw [getD_set_ne true e, ← cntH_set hi k (by omega)]
      omega
theorem cntH_zero {listed : Array Bool} : ∀ k, cntH listed k = 0 → ∀ i, i < k → listed.getD i true = true
  | 0, _, _, hi => by omega
  | k + 1, h, i, hi => by
    unfold cntH at h
    by_cases e : i = k
    · subst e
      by_cases hl : listed.getD i true = true
      · exact hl
      · rw [if_neg hl] at h; omega
    · exact cntH_zero k (by omega) i (by omega)

section
variable {F : Fence} {n : Nat} {P : Program}

/-- One operation, at any world that the region may have reached. -/
structure HeldOp (F : Fence) (n : Nat) (P : Program) (L : List Oper) (N : Nat) (Q : Exit → Act → World → Prop) (V : Nat → Value → World → Prop) (R : World → World → Prop) (D : Nat → List Nat) (a : Act) (w : World) (k : Nat) (o : Oper) : Prop where
  out : ∀ (xs : Nat → Value) (w' : World), (∀ j ∈ D k, V j (xs j) w') → R w w' → ∀ K : Value → World → Prop, (∀ v w'', V k v w'' → R w' w'' → K v w'') →
    if Region.wanted o (yielded L.toArray (putsH xs (L.take N) 0 a).tmps) = true then o.wpIn F n P (putsH xs (L.take N) 0 a) w' (fun a'' w'' => ∃ v, a'' = (putsH xs (L.take N) 0 a).put o.dst v ∧ K v w'') Q
    else (∀ f, o.about P w' (putsH xs (L.take N) 0 a).eval = some f → F.fn f) ∧ K undef w'
def HeldOps (F : Fence) (n : Nat) (P : Program) (L : List Oper) (N : Nat) (Q : Exit → Act → World → Prop) (V : Nat → Value → World → Prop) (R : World → World → Prop) (D : Nat → List Nat) (a : Act) (w : World) : Nat → List Oper → Prop
  | _, [] => True
  | k, o :: os => HeldOp F n P L N Q V R D a w k o ∧ HeldOps F n P L N Q V R D a w (k + 1) os
theorem HeldOps.get {L : List Oper} {N : Nat} {Q : Exit → Act → World → Prop} {V : Nat → Value → World → Prop} {R : World → World → Prop} {D : Nat → List Nat} {a : Act} {w : World} : ∀ (l : List Oper) (k : Nat), HeldOps F n P L N Q V R D a w k l → ∀ i o, l[i]? = some o → HeldOp F n P L N Q V R D a w (k + i) o
  | [], _, _, i, _, h => by simp at h
  | p :: os, k, h, 0, o, ho => by
    simp only [List.getElem?_cons_zero, Option.some.injEq] at ho
    subst ho
    exact h.1
  | p :: os, k, h, i + 1, o, ho => by
    rw [List.getElem?_cons_succ] at ho
    have := HeldOps.get os (k + 1) h.2 i o ho
    rwa [show k + 1 + i = k + (i + 1) by omega] at this

def heldB (N : Nat) (D : Nat → List Nat) (L : List Oper) : Bool :=
  (decide (N = L.length) || (Region.sinkB .any L.toArray N && decide (N < L.length))) && Region.chainB .any L.toArray N && backB .any L.toArray N && backB .any L.toArray 0 && slotsB (L.take N) && depsB .any L.toArray N D

theorem wpAnyIn_held {N : Nat} {L : List Oper} {Q : Exit → Act → World → Prop} {V : Nat → Value → World → Prop} {R : World → World → Prop} {D : Nat → List Nat} {a : Act} {w : World} (hNl : N ≤ L.length)
    (hs : N = L.length ∨ (Region.sinkB .any L.toArray N = true ∧ N < L.length)) (hc : Region.chainB .any L.toArray N = true) (hb : backB .any L.toArray N = true) (hb0 : backB .any L.toArray 0 = true) (hsl : slotsB (L.take N) = true) (hD : depsB .any L.toArray N D = true)
    (hRt : ∀ x y z, R x y → R y z → R x z) (hV : ∀ i v x y, V i v x → R x y → V i v y)
    (hops : HeldOps F n P L N Q V R D a w 0 (L.take N)) (hend : ∀ xs w', (∀ i, i < N → V i (xs i) w') → R w w' → wpListIn F n P L.toArray Q (L.drop N) (putsH xs (L.take N) 0 a) w') :
    ∀ (c fuel : Nat) (listed : Array Bool) (xs : Nat → Value) (w' : World), cntH listed N = c → c + (L.length - N) ≤ fuel → HeadInv .any L.toArray N listed →
      (∀ i, i < N → listed.getD i false = true → V i (xs i) w' ∧ ∀ j ∈ D i, listed.getD j false = true) → R w w' → wpAnyIn F n P .any L.toArray Q fuel listed (putsH xs (L.take N) 0 a) w'
  | 0, fuel, listed, xs, w', hcnt, hf, inv, hk, hR => by
    have hall := cntH_zero N hcnt
    have hall2 : ∀ i, i < N → listed.getD i false = true := by
      intro i hi
      have h2 : i < listed.size := by rw [inv.size, List.size_toArray]; omega
      have := hall i hi
      simp [h2] at this ⊢
      exact this
    exact wpAnyIn_chain hc hb (L.length - N) N fuel listed _ w' (by rw [List.size_toArray]; omega) (Nat.le_refl _) (by omega) inv.size hall hall2 inv.tail (by simpa using hend xs w' (fun i hi => (hk i hi (hall2 i hi)).1) hR)
  | c + 1, fuel, listed, xs, w', hcnt, hf, inv, hk, hR => by
    obtain ⟨f, rfl⟩ : ∃ f, fuel = f + 1 := ⟨fuel - 1, by omega⟩
    have hun : ∃ i, i < N ∧ listed.getD i true = false := by
      apply Classical.byContradiction
      intro hno
      have hall : ∀ i, i < N → listed.getD i true = true := fun i hi => by
        cases hl : listed.getD i true with
        | true => rfl
        | false => exact (hno ⟨i, hi, hl⟩).elim
      have : ∀ k, k ≤ N → cntH listed k = 0 := by
        intro k
        induction k with
        | zero => intro _; rfl
        | succ k ih => intro h; unfold cntH; rw [ih (by omega), hall k (by omega)]; rfl
      rw [this N (Nat.le_refl _)] at hcnt
      omega
    obtain ⟨i0, hi0, hu0⟩ := hun
    have some : Region.ready .any L.toArray listed = [] → ∀ d i, i = d → i < N → listed.getD i true = true := by
      intro hnil d
      induction d using Nat.strongRecOn with
      | _ d ih =>
        rintro i rfl hi
        cases hl : listed.getD i true with
        | true => rfl
        | false =>
          exfalso
          have hilt : i < L.toArray.size := by rw [List.size_toArray]; omega
          have hok : L.toArray[i]? = some L.toArray[i] := Array.getElem?_eq_getElem hilt
          have hB := List.all_eq_true.1 hb0 i (List.mem_range.2 hilt)
          rw [hok] at hB
          simp only [Bool.or_eq_true, decide_eq_true_eq, Option.map_some, Option.getD_some, Nat.not_lt_zero, false_or] at hB
          have : i ∈ Region.ready .any L.toArray listed := mem_ready.2 ⟨hl, _, hok, fun e he hbd => by
            have h2 := Array.all_eq_true'.1 hB e he
            rw [hbd] at h2
            have h3 : e.on < i := by simpa using h2
            have h4 := ih e.on h3 e.on rfl (by omega)
            have h5 : e.on < listed.size := by rw [inv.size]; omega
            rw [Array.getD_eq_getD_getElem?, Array.getElem?_eq_getElem h5] at h4 ⊢
            exact h4⟩
          rw [hnil] at this; cases this
    refine ⟨fun hnil => (by have := some hnil i0 i0 rfl hi0; rw [hu0] at this; cases this), fun i hi => ?_⟩
    have hiN : i < N := by
      rcases Nat.lt_or_ge i N with h1 | h1
      · exact h1
      · exfalso
        rcases hs with hs | ⟨hs, hlt⟩
        · obtain ⟨_, o, ho, _⟩ := mem_ready.1 hi
          have := (Array.getElem?_eq_some_iff.1 ho).1
          rw [List.size_toArray] at this
          omega
        · exact tail_waits hs hc (by rw [List.size_toArray]; exact hlt) inv _ i0 rfl hi0 hu0 i h1 hi
    obtain ⟨hl, o, ho, hall⟩ := mem_ready.1 hi
    have hol : (L.take N)[i]? = Option.some o := by rw [List.getElem?_take_of_lt hiN, ← List.getElem?_toArray]; exact ho
    have hDi : ∀ j ∈ D i, listed.getD j false = true := by
      intro j hj
      have h1 := List.all_eq_true.1 (List.all_eq_true.1 hD i (List.mem_range.2 hiN)) j hj
      rw [ho] at h1
      simp only [Option.map_some, Option.getD_some, Bool.and_eq_true, decide_eq_true_eq] at h1
      obtain ⟨e, he, h2⟩ := Array.any_eq_true'.1 h1.2
      simp only [Bool.and_eq_true, Bool.or_eq_true, beq_iff_eq, decide_eq_true_eq] at h2
      have h3 := hall e he h2.1
      rcases h2.2 with h4 | ⟨h4, h5⟩
      · rw [← h4]; exact h3
      · exact (hk e.on h4 h3).2 j (by simpa using h5)
    have hDN : ∀ j ∈ D i, j < N := by
      intro j hj
      have h1 := List.all_eq_true.1 (List.all_eq_true.1 hD i (List.mem_range.2 hiN)) j hj
      simp only [Bool.and_eq_true, decide_eq_true_eq] at h1
      exact h1.1
    have hop := HeldOps.get (L.take N) 0 hops i o hol
    rw [Nat.zero_add] at hop
    have next : ∀ v w'', V i v w'' → R w' w'' → wpAnyIn F n P .any L.toArray Q f (listed.setIfInBounds i true) ((putsH xs (L.take N) 0 a).put o.dst v) w'' := by
      intro v w'' hv hR2
      rw [putsH_set v _ 0 a i o hsl hol, Nat.zero_add]
      refine wpAnyIn_held hNl hs hc hb hb0 hsl hD hRt hV hops hend c f _ _ w'' (by have := cntH_set hl N hiN; omega) (by omega) (inv.set hi hiN) ?_ (hRt _ _ _ hR hR2)
      intro j hj hlj
      by_cases e : j = i
      · subst e
        rw [if_pos rfl]
        exact ⟨hv, fun j' hj' => getD_set_true (hDi j' hj')⟩
      · rw [if_neg e]
        rw [getD_set_ne false (Ne.symm e)] at hlj
        obtain ⟨h1, h2⟩ := hk j hj hlj
        exact ⟨hV _ _ _ _ h1 hR2, fun j' hj' => getD_set_true (h2 j' hj')⟩
    have hst := hop.out xs w' (fun j hj => (hk j (hDN j hj) (hDi j hj)).1) hR (fun v w'' => wpAnyIn F n P .any L.toArray Q f (listed.setIfInBounds i true) ((putsH xs (L.take N) 0 a).put o.dst v) w'') next
    unfold wpOpIn
    simp only [ho]
    split
    · rename_i hw
      rw [if_pos hw] at hst
      exact Oper.wpIn_mono (fun a'' w'' ⟨v, e, h⟩ => by rw [e]; exact h) hst
    · rename_i hw
      rw [if_neg hw] at hst
      exact hst

theorem wpIn_region_held (N : Nat) (D : Nat → List Nat) (V : Nat → Value → World → Prop) (R : World → World → Prop) {id : Nat} {Q : Exit → Act → World → Prop} {a : Act} {w : World} {L : List Oper} (hm : P.follows .mixedOrders = true) (hok : heldB N D L = true)
    (hRt : ∀ x y z, R x y → R y z → R x z) (hRd : R w w.drew) (hV : ∀ i v x y, V i v x → R x y → V i v y)
    (hops : HeldOps F n P L N Q V R D a w 0 (L.take N)) (hend : ∀ xs w', (∀ i, i < N → V i (xs i) w') → R w w' → wpListIn F n P L.toArray Q (L.drop N) (putsH xs (L.take N) 0 a) w') : (Code.region id L.toArray true).wpIn F n P Q a w := by
  simp only [heldB, Bool.and_eq_true, Bool.or_eq_true, decide_eq_true_eq] at hok
  obtain ⟨⟨⟨⟨⟨hs, hc⟩, hb⟩, hb0⟩, hsl⟩, hD⟩ := hok
  have hNl : N ≤ L.length := by omega
  refine wpIn_region_any hm ?_
  have h0 : putsH (firstX (L.take N) a) (L.take N) 0 a = a := putsH_first _ 0 a fun i o d ho hd => by
    unfold firstX
    rw [Nat.zero_add, ho, Option.bind_some, hd]
  have hle : ∀ k, cntH (Array.replicate L.length false) k ≤ k := by
    intro k
    induction k with
    | zero => exact Nat.le_refl _
    | succ k ih => unfold cntH; split <;> omega
  have h := wpAnyIn_held (F := F) (n := n) (P := P) hNl hs hc hb hb0 hsl hD hRt hV hops hend _ L.toArray.size (Array.replicate L.length false) (firstX (L.take N) a) w.drew rfl (by rw [List.size_toArray]; have := hle N; omega)
    ⟨by simp, fun j oj _ hl e _ _ => (by rw [getD_replicate_false] at hl; exact Bool.noConfusion hl), fun t _ htt => (by rw [List.size_toArray] at htt; simp [htt])⟩ (fun i _ hl => (by rw [getD_replicate_false] at hl; exact Bool.noConfusion hl)) hRd
  rw [h0] at h
  simpa using h

/-- The same of a region that draws no order. -/
def heldLB (N : Nat) (D : Nat → List Nat) (L : List Oper) : Bool := decide (N ≤ L.length) && slotsB (L.take N) && ((List.range N).all fun k => (D k).all fun j => decide (j < k))
theorem wpListIn_held {N : Nat} {L : List Oper} {Q : Exit → Act → World → Prop} {V : Nat → Value → World → Prop} {R : World → World → Prop} {D : Nat → List Nat} {a : Act} {w : World} (hNl : N ≤ L.length) (hsl : slotsB (L.take N) = true) (hD : ∀ k, k < N → ∀ j ∈ D k, j < k)
    (hRt : ∀ x y z, R x y → R y z → R x z) (hV : ∀ i v x y, V i v x → R x y → V i v y)
    (hops : HeldOps F n P L N Q V R D a w 0 (L.take N)) (hend : ∀ xs w', (∀ i, i < N → V i (xs i) w') → R w w' → wpListIn F n P L.toArray Q (L.drop N) (putsH xs (L.take N) 0 a) w') :
    ∀ (r k : Nat) (xs : Nat → Value) (w' : World), k + r = N → (∀ i, i < k → V i (xs i) w') → R w w' → wpListIn F n P L.toArray Q (L.drop k) (putsH xs (L.take N) 0 a) w'
  | 0, k, xs, w', hk, hv, hR => by
    obtain rfl : k = N := by omega
    exact hend xs w' hv hR
  | r + 1, k, xs, w', hk, hv, hR => by
    have hkN : k < N := by omega
    have hkl : k < L.length := by omega
    rw [List.drop_eq_getElem_cons hkl]
    have hol : (L.take N)[k]? = some L[k] := by rw [List.getElem?_take_of_lt hkN, List.getElem?_eq_getElem hkl]
    have hop := HeldOps.get (L.take N) 0 hops k _ hol
    rw [Nat.zero_add] at hop
    have next : ∀ v w'', V k v w'' → R w' w'' → wpListIn F n P L.toArray Q (L.drop (k + 1)) ((putsH xs (L.take N) 0 a).put L[k].dst v) w'' := by
      intro v w'' hvk hR2
      rw [putsH_set v _ 0 a k _ hsl hol, Nat.zero_add]
      refine wpListIn_held hNl hsl hD hRt hV hops hend r (k + 1) _ w'' (by omega) (fun i hi => ?_) (hRt _ _ _ hR hR2)
      by_cases e : i = k
      · subst e; rw [if_pos rfl]; exact hvk
      · rw [if_neg e]; exact hV _ _ _ _ (hv i (by omega)) hR2
    have hst := hop.out xs w' (fun j hj => hv j (hD k hkN j hj)) hR (fun v w'' => wpListIn F n P L.toArray Q (L.drop (k + 1)) ((putsH xs (L.take N) 0 a).put L[k].dst v) w'') next
    unfold wpListIn
    split
    · rename_i hw
      rw [if_pos hw] at hst
      exact Oper.wpIn_mono (fun a'' w'' ⟨v, e, h⟩ => by rw [e]; exact h) hst
    · rename_i hw
      rw [if_neg hw] at hst
      exact hst
theorem wpIn_region_heldL (N : Nat) (D : Nat → List Nat) (V : Nat → Value → World → Prop) (R : World → World → Prop) {id : Nat} {Q : Exit → Act → World → Prop} {a : Act} {w : World} {L : List Oper} (hok : heldLB N D L = true)
    (hRt : ∀ x y z, R x y → R y z → R x z) (hRr : R w w) (hV : ∀ i v x y, V i v x → R x y → V i v y)
    (hops : HeldOps F n P L N Q V R D a w 0 (L.take N)) (hend : ∀ xs w', (∀ i, i < N → V i (xs i) w') → R w w' → wpListIn F n P L.toArray Q (L.drop N) (putsH xs (L.take N) 0 a) w') : (Code.region id L.toArray false).wpIn F n P Q a w := by
  simp only [heldLB, Bool.and_eq_true, decide_eq_true_eq] at hok
  obtain ⟨⟨hNl, hsl⟩, hD⟩ := hok
  refine wpIn_region_lit ?_
  have h0 : putsH (firstX (L.take N) a) (L.take N) 0 a = a := putsH_first _ 0 a fun i o d ho hd => by
    unfold firstX
    rw [Nat.zero_add, ho, Option.bind_some, hd]
  have h := wpListIn_held (F := F) (n := n) (P := P) (Q := Q) hNl hsl (fun k hk j hj => by
    have := List.all_eq_true.1 (List.all_eq_true.1 hD k (List.mem_range.2 hk)) j hj
    simpa using this) hRt hV hops hend N 0 (firstX (L.take N) a) w (by omega) (fun i hi => absurd hi (Nat.not_lt_zero i)) hRr
  rw [h0, List.drop_zero] at h
  exact h

/-- A fence that bars nothing. -/
def Fence.free (F : Fence) : Prop := F.depth = none ∧ ∀ f, F.fn f
theorem free_wide : Fence.free Fence.wide := ⟨rfl, fun _ => trivial⟩
theorem free_round (l : Nat) : Fence.free (Fence.wide.inRound l) := ⟨rfl, fun _ => trivial⟩

section
variable {L : List Oper} {N : Nat} {Q : Exit → Act → World → Prop} {V : Nat → Value → World → Prop} {R : World → World → Prop} {D : Nat → List Nat} {a : Act} {w : World} {k : Nat} {o : Oper}
/-- The guard is held. -/
structure HeldGd (L : List Oper) (N : Nat) (V : Nat → Value → World → Prop) (R : World → World → Prop) (D : Nat → List Nat) (a : Act) (w : World) (k : Nat) (o : Oper) : Prop where
  out : ∀ (xs : Nat → Value) (w' : World), (∀ j ∈ D k, V j (xs j) w') → R w w' → Region.wanted o (yielded L.toArray (putsH xs (L.take N) 0 a).tmps) = true
theorem heldGd_none (h : o.guard = none) : HeldGd L N V R D a w k o := ⟨fun _ _ _ _ => by simp [Region.wanted, h]⟩
/-- An operation that runs to a value and leaves the world as it is. -/
theorem held_runG (hF : Fence.free F) (hg : HeldGd L N V R D a w k o) (hnd : noDefer o = true) (hRr : ∀ x, R x x)
    (h : ∀ (xs : Nat → Value) (w' : World), (∀ j ∈ D k, V j (xs j) w') → R w w' → ∃ v, (execOp (putsH xs (L.take N) 0 a).eval o).run P w' = .ok (.value v) w' ∧ V k v w') : HeldOp F n P L N Q V R D a w k o := by
  refine ⟨?_⟩
  intro xs w' hk hR K hK
  rw [if_pos (hg.out xs w' hk hR)]
  obtain ⟨v, h1, h2⟩ := h xs w' hk hR
  unfold Oper.wpIn
  refine ⟨fun f _ => hF.2 f, ?_⟩
  rw [Oper.semAt_plain F _ o (noDefer_spec hnd), h1]
  exact ⟨v, rfl, hK _ _ h2 (hRr _)⟩
/-- A call of a function by its name. -/
theorem held_callG (hF : Fence.free F) (hg : HeldGd L N V R D a w k o) (f : FuncId) (ags : Array Operand) (ats : Array TypeId) (ho : o.op = .call { callee := .value (.func f), args := ags, argTypes := ats })
    (eg : Enters P f)
    (h : ∀ (xs : Nat → Value) (w' : World), (∀ j ∈ D k, V j (xs j) w') → R w w' → ∃ v', ags.map (putsH xs (L.take N) 0 a).eval = v' ∧ CallsIn F (n - 1) P f v' w' fun e w'' => ∃ v, e = .returned v ∧ V k v w'' ∧ R w' w'') : HeldOp F n P L N Q V R D a w k o := by
  refine ⟨?_⟩
  intro xs w' hk hR K hK
  rw [if_pos (hg.out xs w' hk hR)]
  obtain ⟨v', h1, h2⟩ := h xs w' hk hR
  subst h1
  unfold Oper.wpIn
  refine ⟨fun f _ => hF.2 f, ?_⟩
  have hr : (execOp (putsH xs (L.take N) 0 a).eval o).run P w' = .ok (.enter f (ags.map (putsH xs (L.take N) 0 a).eval)) w' := by
    unfold execOp
    simp only [ho, resolve, show (putsH xs (L.take N) 0 a).eval (.func f) = .func (.func f) #[] #[] from rfl, Deferred.ofValue, Sem.run_bind, Sem.run_pure, Result.andThen_ok, invoke]
    rw [eg]
    simp
  rw [Oper.semAt_plain F _ o (fun c hc => by rw [ho] at hc; cases hc), hr]
  refine ⟨fun hd => (by rw [hF.1] at hd; cases hd), h2.mono ?_⟩
  rintro e w'' ⟨v, rfl, h3, h4⟩
  exact ⟨v, rfl, hK _ _ h3 h4⟩
/-- A move. -/
theorem held_moveG (hF : Fence.free F) (hg : HeldGd L N V R D a w k o) (hRr : ∀ x, R x x) (x : Operand) (ho : o.op = .move x ∨ o.op = .assign x)
    (h : ∀ (xs : Nat → Value) (w' : World), (∀ j ∈ D k, V j (xs j) w') → R w w' → V k ((putsH xs (L.take N) 0 a).eval x) w') : HeldOp F n P L N Q V R D a w k o :=
  held_runG hF hg (by unfold noDefer; rcases ho with e | e <;> rw [e]) hRr fun xs w' hk hR => ⟨_, by unfold execOp; rcases ho with e | e <;> simp only [e] <;> rfl, h xs w' hk hR⟩
/-- A load. -/
theorem held_loadG (hF : Fence.free F) (hg : HeldGd L N V R D a w k o) (hRr : ∀ x, R x x) (T : TypeId) (x : Operand) (ho : o.op = .load T x)
    (h : ∀ (xs : Nat → Value) (w' : World), (∀ j ∈ D k, V j (xs j) w') → R w w' → ∃ p v, (putsH xs (L.take N) 0 a).eval x = .pointer (some p) ∧ (loadVar T p).run P w' = .ok v w' ∧ V k v w') : HeldOp F n P L N Q V R D a w k o :=
  held_runG hF hg (by unfold noDefer; rw [ho]) hRr fun xs w' hk hR => by
    obtain ⟨p, v, h1, h2, h3⟩ := h xs w' hk hR
    exact ⟨v, by unfold execOp; simp only [ho, h1, Instr.loadAt, Instr.sureAddr, Sem.run_bind, Sem.run_pure, Result.andThen_ok, h2], h3⟩
/-- An operation whose guard is not held. -/
theorem held_skip (hF : Fence.free F) (hg : ∀ (xs : Nat → Value) (w' : World), (∀ j ∈ D k, V j (xs j) w') → R w w' → Region.wanted o (yielded L.toArray (putsH xs (L.take N) 0 a).tmps) = false) (hRr : ∀ x, R x x) (hV : ∀ w', V k undef w') : HeldOp F n P L N Q V R D a w k o := by
  refine ⟨?_⟩
  intro xs w' hk hR K hK
  rw [if_neg (by rw [hg xs w' hk hR]; exact Bool.false_ne_true)]
  exact ⟨fun f _ => hF.2 f, hK _ _ (hV w') (hRr _)⟩
theorem held_run (hF : Fence.free F) (hg : o.guard = none) (hnd : noDefer o = true) (hRr : ∀ x, R x x)
    (h : ∀ (xs : Nat → Value) (w' : World), (∀ j ∈ D k, V j (xs j) w') → R w w' → ∃ v, (execOp (putsH xs (L.take N) 0 a).eval o).run P w' = .ok (.value v) w' ∧ V k v w') : HeldOp F n P L N Q V R D a w k o := held_runG hF (heldGd_none hg) hnd hRr h
theorem held_call (hF : Fence.free F) (hg : o.guard = none) (f : FuncId) (ags : Array Operand) (ats : Array TypeId) (ho : o.op = .call { callee := .value (.func f), args := ags, argTypes := ats })
    (eg : Enters P f)
    (h : ∀ (xs : Nat → Value) (w' : World), (∀ j ∈ D k, V j (xs j) w') → R w w' → ∃ v', ags.map (putsH xs (L.take N) 0 a).eval = v' ∧ CallsIn F (n - 1) P f v' w' fun e w'' => ∃ v, e = .returned v ∧ V k v w'' ∧ R w' w'') : HeldOp F n P L N Q V R D a w k o := held_callG hF (heldGd_none hg) f ags ats ho eg h
theorem held_move (hF : Fence.free F) (hg : o.guard = none) (hRr : ∀ x, R x x) (x : Operand) (ho : o.op = .move x ∨ o.op = .assign x)
    (h : ∀ (xs : Nat → Value) (w' : World), (∀ j ∈ D k, V j (xs j) w') → R w w' → V k ((putsH xs (L.take N) 0 a).eval x) w') : HeldOp F n P L N Q V R D a w k o := held_moveG hF (heldGd_none hg) hRr x ho h
theorem held_load (hF : Fence.free F) (hg : o.guard = none) (hRr : ∀ x, R x x) (T : TypeId) (x : Operand) (ho : o.op = .load T x)
    (h : ∀ (xs : Nat → Value) (w' : World), (∀ j ∈ D k, V j (xs j) w') → R w w' → ∃ p v, (putsH xs (L.take N) 0 a).eval x = .pointer (some p) ∧ (loadVar T p).run P w' = .ok v w' ∧ V k v w') : HeldOp F n P L N Q V R D a w k o := held_loadG hF (heldGd_none hg) hRr T x ho h
end
end
/-- Which operation writes a slot. -/
def whoPuts (t : Nat) : List Oper → Nat → Option Nat
  | [], _ => none
  | o :: os, k => match whoPuts t os (k + 1) with
    | some i => some i
    | none => match o.dst with
      | some d => if d == t then some k else none
      | none => none
theorem put_eval (a : Act) (x : Option Tmp) (v : Value) (t : Nat) : (a.put x v).eval (.tmp t) = if x = some t then (if t < a.tmps.size then v else undef) else a.eval (.tmp t) := by
  cases x with
  | none => rfl
  | some d =>
    by_cases e : d = t
    · subst e
      rw [if_pos rfl]
      by_cases h : d < a.tmps.size
      · simp [Act.put, Act.eval, h]
      · rw [if_neg h]
        simp [Act.put, Act.eval]
        exact fun h' => absurd h' h
    · rw [if_neg (fun h => e (Option.some.inj h))]
      simp [Act.put, Act.eval, Array.getElem?_setIfInBounds_ne e]
theorem put_size (a : Act) (x : Option Tmp) (v : Value) : (a.put x v).tmps.size = a.tmps.size := by cases x <;> simp [Act.put]
theorem putsH_eval {xs : Nat → Value} (t : Nat) : ∀ (l : List Oper) (k : Nat) (a : Act), (putsH xs l k a).eval (.tmp t) = match whoPuts t l k with
    | some i => if t < a.tmps.size then xs i else undef
    | none => a.eval (.tmp t)
  | [], _, _ => rfl
  | o :: os, k, a => by
    unfold putsH whoPuts
    rw [putsH_eval t os (k + 1) _, put_size]
    cases h : whoPuts t os (k + 1) with
    | some i => rfl
    | none =>
      simp only
      rw [put_eval]
      cases hd : o.dst with
      | none => rfl
      | some d =>
        by_cases e : d = t
        · subst e; simp
        · rw [if_neg (fun h => e (Option.some.inj h))]
          have : (d == t) = false := by simpa using e
          simp [this]
theorem putsH_tmp {xs : Nat → Value} {l : List Oper} {a : Act} {t i : Nat} (h : whoPuts t l 0 = some i) (ht : Nat.blt t a.tmps.size = true) : (putsH xs l 0 a).eval (.tmp t) = xs i := by
  rw [putsH_eval, h]
  exact if_pos (Nat.blt_eq ▸ ht)
theorem putsH_old {xs : Nat → Value} {l : List Oper} {a : Act} {t : Nat} (h : whoPuts t l 0 = none) : (putsH xs l 0 a).eval (.tmp t) = a.eval (.tmp t) := by
  rw [putsH_eval, h]
/-- A guard by what was known of the test's value. -/
theorem wanted_of {L : List Oper} {N : Nat} {a : Act} {xs : Nat → Value} {o : Oper} {j d : Nat} {b b' : Bool} (hg : o.guard = some (j, b)) (hd : (L.toArray[j]?).bind (·.dst) = some d) (hw : whoPuts d (L.take N) 0 = some j) (hs : Nat.blt d a.tmps.size = true) (hv : xs j = .bool b') :
    Region.wanted o (yielded L.toArray (putsH xs (L.take N) 0 a).tmps) = (b' == b) := by
  have he := putsH_tmp (xs := xs) (a := a) hw hs
  rw [hv] at he
  have hsz : d < (putsH xs (L.take N) 0 a).tmps.size := by
    rcases Nat.lt_or_ge d (putsH xs (L.take N) 0 a).tmps.size with h | h
    · exact h
    · exfalso
      have he' : (putsH xs (L.take N) 0 a).tmps.getD d undef = .bool b' := he
      rw [Array.getD_eq_getD_getElem?, Array.getElem?_eq_none h] at he'
      cases he'
  have he' : (putsH xs (L.take N) 0 a).tmps.getD d undef = .bool b' := he
  rw [Array.getD_eq_getD_getElem?, Array.getElem?_eq_getElem hsz] at he'
  have he2 : (putsH xs (L.take N) 0 a).tmps[d] = .bool b' := he'
  unfold Region.wanted yielded
  rw [hg]
  simp only [hd, Option.bind_some, Array.getElem?_eq_getElem hsz, he2]
  cases b <;> cases b' <;> rfl
theorem heldGd_some {L : List Oper} {N : Nat} {V : Nat → Value → World → Prop} {R : World → World → Prop} {D : Nat → List Nat} {a : Act} {w : World} {k : Nat} {o : Oper} (j d : Nat) (b : Bool) (hg : o.guard = some (j, b)) (hd : (L.toArray[j]?).bind (·.dst) = some d) (hw : whoPuts d (L.take N) 0 = some j) (hs : Nat.blt d a.tmps.size = true)
    (hv : ∀ (xs : Nat → Value) (w' : World), (∀ j ∈ D k, V j (xs j) w') → xs j = .bool b) : HeldGd L N V R D a w k o := ⟨fun xs w' hk _ => by
  rw [wanted_of hg hd hw hs (hv xs w' hk)]
  cases b <;> rfl⟩
theorem heldGd_not {F : Fence} {n : Nat} {P : Program} {Q : Exit → Act → World → Prop} {L : List Oper} {N : Nat} {V : Nat → Value → World → Prop} {R : World → World → Prop} {D : Nat → List Nat} {a : Act} {w : World} {k : Nat} {o : Oper} (hF : Fence.free F) (j d : Nat) (b : Bool) (hg : o.guard = some (j, b)) (hd : (L.toArray[j]?).bind (·.dst) = some d) (hw : whoPuts d (L.take N) 0 = some j) (hs : Nat.blt d a.tmps.size = true)
    (hv : ∀ (xs : Nat → Value) (w' : World), (∀ j ∈ D k, V j (xs j) w') → xs j = .bool (!b)) (hRr : ∀ x, R x x) (hV : ∀ w', V k undef w') : HeldOp F n P L N Q V R D a w k o :=
  held_skip hF (fun xs w' hk _ => by
    rw [wanted_of hg hd hw hs (hv xs w' hk)]
    cases b <;> rfl) hRr hV
theorem wanted_undef {L : List Oper} {N : Nat} {a : Act} {xs : Nat → Value} {o : Oper} {j d : Nat} {b : Bool} (hg : o.guard = some (j, b)) (hd : (L.toArray[j]?).bind (·.dst) = some d) (hw : whoPuts d (L.take N) 0 = some j) (hs : Nat.blt d a.tmps.size = true) (hv : xs j = undef) :
    Region.wanted o (yielded L.toArray (putsH xs (L.take N) 0 a).tmps) = false := by
  have he := putsH_tmp (xs := xs) (a := a) hw hs
  rw [hv] at he
  have he' : (putsH xs (L.take N) 0 a).tmps.getD d undef = undef := he
  unfold Region.wanted yielded
  rw [hg]
  simp only [hd, Option.bind_some]
  rcases Nat.lt_or_ge d (putsH xs (L.take N) 0 a).tmps.size with h | h
  · rw [Array.getD_eq_getD_getElem?, Array.getElem?_eq_getElem h] at he'
    have he2 : (putsH xs (L.take N) 0 a).tmps[d] = undef := he'
    rw [Array.getElem?_eq_getElem h, he2]
    rfl
  · rw [Array.getElem?_eq_none h]
    rfl
/-- What is known of a value that is there only under a condition. -/
def cdV (C : Prop) (p : Value → World → Prop) (v : Value) (w : World) : Prop := (C ∧ p v w) ∨ (¬ C ∧ v = undef)
theorem cdV.get {C : Prop} {p : Value → World → Prop} {v : Value} {w : World} (h : cdV C p v w) (hc : C) : p v w := h.elim (fun h => h.2) (fun h => absurd hc h.1)
/-- An operation whose guard is a truth that is not decided. -/
theorem held_guard {F : Fence} {n : Nat} {P : Program} {Q : Exit → Act → World → Prop} {L : List Oper} {N : Nat} {V : Nat → Value → World → Prop} {R : World → World → Prop} {D : Nat → List Nat} {a : Act} {w : World} {k : Nat} {o : Oper} (hF : Fence.free F) (j d : Nat) (b : Bool) (Cg : Prop) (E : Bool) (hRr : ∀ x, R x x)
    (hg : o.guard = some (j, b)) (hd : (L.toArray[j]?).bind (·.dst) = some d) (hw : whoPuts d (L.take N) 0 = some j) (hs : Nat.blt d a.tmps.size = true)
    (hv : ∀ (xs : Nat → Value) (w' : World), (∀ j ∈ D k, V j (xs j) w') → (Cg ∧ xs j = .bool E) ∨ (¬ Cg ∧ xs j = undef))
    (h1 : Cg ∧ E = b → HeldGd L N V R D a w k o → HeldOp F n P L N Q V R D a w k o) (h2 : ¬ (Cg ∧ E = b) → ∀ w', V k undef w') : HeldOp F n P L N Q V R D a w k o := by
  by_cases hc : Cg ∧ E = b
  · refine h1 hc ⟨fun xs w' hk _ => ?_⟩
    rcases hv xs w' hk with ⟨_, e⟩ | ⟨hn, _⟩
    · rw [wanted_of hg hd hw hs e, hc.2]
      cases b <;> rfl
    · exact absurd hc.1 hn
  · refine held_skip hF (fun xs w' hk _ => ?_) hRr (h2 hc)
    rcases hv xs w' hk with ⟨h3, e⟩ | ⟨_, e⟩
    · rw [wanted_of hg hd hw hs e]
      have : E ≠ b := fun h => hc ⟨h3, h⟩
      cases b <;> cases E <;> simp_all
    · exact wanted_undef hg hd hw hs e
section
variable {P : Program} {ρ : Operand → Value} {o : Oper} {w w' : World}
theorem run_pickO {c x y : Operand} {b : Bool} {v : Value} (ho : o.op = .pick c x y) (hc : ρ c = .bool b) (hv : (if b then ρ x else ρ y) = v) : (execOp ρ o).run P w = .ok (.value v) w := by
  unfold execOp
  subst hv
  cases b <;> simp [ho, hc, asBool]
theorem run_pickT {c x y : Operand} {v : Value} (ho : o.op = .pick c x y) (hc : ρ c = .bool true) (hv : ρ x = v) : (execOp ρ o).run P w = .ok (.value v) w := run_pickO ho hc hv
theorem run_pickF {c x y : Operand} {v : Value} (ho : o.op = .pick c x y) (hc : ρ c = .bool false) (hv : ρ y = v) : (execOp ρ o).run P w = .ok (.value v) w := run_pickO ho hc hv
theorem run_pickAnd {c x : Operand} {C X : Bool} (ho : o.op = .pick c x (.const (.bool false))) (hc : ρ c = .bool C) (hr : ρ (.const (.bool false)) = .bool false) (hx : C = true → ρ x = .bool X) : (execOp ρ o).run P w = .ok (.value (.bool (C && X))) w := by
  cases C
  · exact run_pickO ho hc hr
  · exact run_pickO ho hc (hx rfl)
theorem run_pickOr {c y : Operand} {C Y : Bool} (ho : o.op = .pick c (.const (.bool true)) y) (hc : ρ c = .bool C) (hr : ρ (.const (.bool true)) = .bool true) (hy : C = false → ρ y = .bool Y) : (execOp ρ o).run P w = .ok (.value (.bool (C || Y))) w := by
  cases C
  · exact run_pickO ho hc (hy rfl)
  · exact run_pickO ho hc hr
theorem run_fldO {T : TypeId} {x : Operand} {f : Nat} {v : Value} (ho : o.op = .fieldAddr T x f) {vx : Value} (hx : ρ x = vx) (hr : (Instr.fieldAt T vx f).run P w = .ok v w) : (execOp ρ o).run P w = .ok (.value v) w := by
  subst hx
  unfold execOp
  simp only [ho, Sem.run_bind, hr, Sem.run_pure, Result.andThen_ok]
theorem run_unO {op : UnOp} {T : TypeId} {x : Operand} {vx v : Value} (ho : o.op = .unOp op T x) (hx : ρ x = vx) (hr : (Op.unary op vx).run P w = .ok v w) : (execOp ρ o).run P w = .ok (.value v) w := by
  subst hx
  unfold execOp
  simp only [ho, Sem.run_bind, hr, Sem.run_pure, Result.andThen_ok]
theorem run_idxO {T : TypeId} {x i : Operand} {vx vi v : Value} (ho : o.op = .indexAddr T x i) (hx : ρ x = vx) (hi : ρ i = vi) (hr : (Instr.indexAt T vx vi).run P w = .ok v w) : (execOp ρ o).run P w = .ok (.value v) w := by
  subst hx hi
  unfold execOp
  simp only [ho, Sem.run_bind, hr, Sem.run_pure, Result.andThen_ok]
theorem run_cvtO {S T : TypeId} {x : Operand} {vx v : Value} (ho : o.op = .convert S T x) (hx : ρ x = vx) (hr : (convert S T vx).run P w = .ok v w) : (execOp ρ o).run P w = .ok (.value v) w := by
  subst hx
  unfold execOp
  simp only [ho, Sem.run_bind, hr, Sem.run_pure, Result.andThen_ok]
theorem run_binO {op : BinOp} {T T2 : TypeId} {x y : Operand} {vx vy v : Value} (ho : o.op = .binOp op T x y T2) (hx : ρ x = vx) (hy : ρ y = vy) (hr : (do eqGuard op T x y vx vy; Go.binOp op T vx vy : Sem Value).run P w = .ok v w) : (execOp ρ o).run P w = .ok (.value v) w := by
  unfold execOp
  subst hx hy
  simp only [ho]
  rw [Sem.run_bind] at hr
  simp only [Sem.run_bind, Sem.run_pure]
  rw [hr]
  rfl
theorem run_sliceO {T : TypeId} {x : Operand} {l h m : Option Operand} {v : Value} (ho : o.op = .slice T x l h m) (hr : (Instr.sliceAt T (ρ x) (l.map ρ) (h.map ρ) (m.map ρ)).run P w = .ok v w) : (execOp ρ o).run P w = .ok (.value v) w := by
  unfold execOp
  simp only [ho, Sem.run_bind, hr, Sem.run_pure, Result.andThen_ok]
end
section
variable {P : Program} {T : TypeId} {x y : Operand} {k : IntKind} {a b : Int} {w : World}
theorem bin_geq : (do eqGuard .geq T x y (.int k a) (.int k b); Go.binOp .geq T (.int k a) (.int k b) : Sem Value).run P w = .ok (.bool (decide (b ≤ a))) w := by simp [eqGuard, Go.binOp, Op.intCmp]
theorem bin_leq : (do eqGuard .leq T x y (.int k a) (.int k b); Go.binOp .leq T (.int k a) (.int k b) : Sem Value).run P w = .ok (.bool (decide (a ≤ b))) w := by simp [eqGuard, Go.binOp, Op.intCmp]
theorem bin_lss : (do eqGuard .lss T x y (.int k a) (.int k b); Go.binOp .lss T (.int k a) (.int k b) : Sem Value).run P w = .ok (.bool (decide (a < b))) w := by simp [eqGuard, Go.binOp, Op.intCmp]
theorem bin_gtr : (do eqGuard .gtr T x y (.int k a) (.int k b); Go.binOp .gtr T (.int k a) (.int k b) : Sem Value).run P w = .ok (.bool (decide (b < a))) w := by simp [eqGuard, Go.binOp, Op.intCmp]
theorem bin_eql : (do eqGuard .eql T x y (.int k a) (.int k b); Go.binOp .eql T (.int k a) (.int k b) : Sem Value).run P w = .ok (.bool (a == b)) w := by simp [eqGuard, Go.binOp, Op.intCmp]
theorem bin_neq : (do eqGuard .neq T x y (.int k a) (.int k b); Go.binOp .neq T (.int k a) (.int k b) : Sem Value).run P w = .ok (.bool (a != b)) w := by simp [eqGuard, Go.binOp, Op.intCmp]
end
theorem bin_eqlB {P : Program} {T : TypeId} (hT : P.underlying T = some .bool) (x y : Operand) (a b : Bool) (w : World) : (do eqGuard .eql T x y (.bool a) (.bool b); Go.binOp .eql T (.bool a) (.bool b) : Sem Value).run P w = .ok (.bool (a == b)) w := by
  simp [eqGuard, Go.binOp, Op.equal, Op.maxDepth, run_equalIn_bool w 9999 T a b hT]
theorem bin_neqB {P : Program} {T : TypeId} (hT : P.underlying T = some .bool) (x y : Operand) (a b : Bool) (w : World) : (do eqGuard .neq T x y (.bool a) (.bool b); Go.binOp .neq T (.bool a) (.bool b) : Sem Value).run P w = .ok (.bool (a != b)) w := by
  simp [eqGuard, Go.binOp, Op.equal, Op.maxDepth, run_equalIn_bool w 9999 T a b hT]
  cases a <;> cases b <;> rfl
/-- A part of a block, loaded. -/
theorem run_loadVar_sub {P : Program} (w : World) (g off : Nat) (t ty : TypeId) (cs : Array Value) (l : List Value) {d : TypeDesc} (hg : w.heap[g]? = some (.cells cs t (0, 0))) (hl : (cs.toList.drop off).take l.length = l)
    (hu : P.underlying ty = some d) (hd : (match d with | .struct _ | .array _ _ => true | _ => false) = true) (hi : (P.info? ty).map (·.size) = some l.length) : (loadVar ty ⟨g, off, none⟩).run P w = .ok (.agg l.toArray) w := by
  have hc : (loadCells ⟨g, off, none⟩ l.length).run P w = .ok l.toArray w :=
    run_loadCells_list (P := P) w ⟨g, off, none⟩ l (fun j v hv => by
      have hadd : (⟨g, off, none⟩ : Addr).add j = ⟨g, off + j, none⟩ := by unfold Addr.add; split <;> simp_all
      rw [hadd, cell_of_row w g (off + j) cs t (0, 0) hg]
      have hj : j < l.length := (List.getElem?_eq_some_iff.1 hv).1
      have h2 := congrArg (fun z => z[j]?) hl
      simp only [List.getElem?_take_of_lt hj, List.getElem?_drop] at h2
      rw [← Array.getElem?_toList, h2]
      exact hv)
  cases hq : P.info? ty with
  | none => simp [hq] at hi
  | some i =>
    have hs : i.size = l.length := by simpa [hq] using hi
    have hagg : (isAgg ty).run P w = .ok true w := by
      unfold isAgg
      rw [Sem.run_bind, run_underlying hu w]
      cases d <;> simp_all
    simp [loadVar, Sem.run_bind, hagg, sizeOf, typeInfo, hq, hs, hc]
/-- All blocks kept: the relation of calls that make memory. -/
def BelowR (W W' : World) : Prop := Below W.heap.size W W'
theorem BelowR.refl (W : World) : BelowR W W := Below.refl _ W
theorem BelowR.trans (x y z : World) (h : BelowR x y) (k : BelowR y z) : BelowR x z := Below.trans h (Below.mono k (Below.size h))
theorem BelowR.drew (W : World) : BelowR W W.drew := ⟨rfl, rfl, rfl, Nat.le_refl _, fun _ _ => rfl⟩
/-- A list as a function. -/
def atV (l : List (Value → World → Prop)) (i : Nat) : Value → World → Prop := (l[i]?).getD fun _ _ => True
/-- What is known of a value, and that it stays. -/
inductive StV (R : World → World → Prop) : List (Value → World → Prop) → Prop
  | nil : StV R []
  | const {l : List (Value → World → Prop)} (c : Value) (h : StV R l) : StV R ((fun v _ => v = c) :: l)
  | cons {l : List (Value → World → Prop)} {p : Value → World → Prop} (hp : ∀ v x y, p v x → R x y → p v y) (h : StV R l) : StV R (p :: l)
theorem StV.atV {R : World → World → Prop} {l : List (Value → World → Prop)} (h : StV R l) : ∀ i v x y, atV l i v x → R x y → Go.Proofs.Ytckhkagkpldoiaa.atV l i v y := by
  induction h with
  | nil => intro i v x y h _; simp [Go.Proofs.Ytckhkagkpldoiaa.atV]
  | const c h ih =>
    intro i v x y h hR
    cases i with
    | zero => exact h
    | succ i => exact ih i v x y (by simpa [Go.Proofs.Ytckhkagkpldoiaa.atV] using h) hR
  | cons hp h ih =>
    intro i v x y h hR
    cases i with
    | zero => exact hp v x y h hR
    | succ i => exact ih i v x y (by simpa [Go.Proofs.Ytckhkagkpldoiaa.atV] using h) hR
def atD (l : List (List Nat)) (i : Nat) : List Nat := (l[i]?).getD []
end Go.Proofs.Ytckhkagkpldoiaa
