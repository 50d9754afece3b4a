/- A region that draws its order, whose last operations write and wait for all others: one walk of the lexical order serves every order, inside a fence and in a round. No program in sight. -/
import Derived.Test.YtckhkagkpldoiaaQRound
import Derived.StillTail
namespace Go.Proofs.Ytckhkagkpldoiaa
open Go

section
variable {F : Fence} {n : Nat} {P : Program} {md : Region.Mode} {C : World → Prop}

def guardB (N : Nat) (o : Oper) : Bool := match o.guard with | some (k, _) => decide (k < N) | none => true
def backB (md : Region.Mode) (ops : Array Oper) (N : Nat) : Bool :=
  (List.range ops.size).all fun t => decide (t < N) || ((ops[t]?).map (·.after.all fun e => !Region.binds md e || decide (e.on < t))).getD false

theorem app_get {l ts : List Oper} {i : Nat} (hi : i < l.length) : (l ++ ts).toArray[i]? = l.toArray[i]? := by
  rw [List.getElem?_toArray, List.getElem?_toArray, List.getElem?_append_left hi]
theorem wanted_app {l ts : List Oper} {o : Oper} (h : guardB l.length o = true) (tmps : Array Value) : Region.wanted o (yielded (l ++ ts).toArray tmps) = Region.wanted o (yielded l.toArray tmps) := by
  unfold guardB at h
  unfold Region.wanted
  cases hg : o.guard with
  | none => rfl
  | some g =>
    obtain ⟨k, b⟩ := g
    rw [hg] at h
    have hk : k < l.length := of_decide_eq_true h
    simp only [yielded, app_get hk]

/-- The tail, once all of the head has come up. -/
theorem wpAnyIn_chain {ops : Array Oper} {N : Nat} {Q : Exit → Act → World → Prop} (hc : Region.chainB md ops N = true) (hb : backB md ops N = true) : ∀ (r k fuel : Nat) (listed : Array Bool) (a : Act) (w : World),
    ops.size = k + r → N ≤ k → r ≤ fuel → listed.size = ops.size → (∀ i, i < k → listed.getD i true = true) → (∀ i, i < k → listed.getD i false = true) → (∀ i, k ≤ i → i < ops.size → listed.getD i true = false) →
    wpListIn F n P ops Q (ops.toList.drop k) a w → wpAnyIn F n P md ops Q fuel listed a w
  | 0, k, fuel, listed, a, w, hr, hN, hf, hsz, hl, hl2, hu, h => by
    have hnone : Region.ready md ops listed = [] := by
      apply List.eq_nil_iff_forall_not_mem.2
      intro j hj
      obtain ⟨h1, o, ho, _⟩ := mem_ready.1 hj
      have hjlt : j < ops.size := (Array.getElem?_eq_some_iff.1 ho).1
      rw [hl j (by omega)] at h1; cases h1
    have hd : ops.toList.drop k = [] := List.drop_eq_nil_iff.2 (by rw [Array.length_toList]; omega)
    rw [hd] at h
    cases fuel with
    | zero => exact ⟨hnone, h⟩
    | succ f => exact ⟨fun _ => h, fun i hi => by rw [hnone] at hi; cases hi⟩
  | r + 1, k, fuel, listed, a, w, hr, hN, hf, hsz, hl, hl2, hu, h => by
    obtain ⟨f, rfl⟩ : ∃ f, fuel = f + 1 := ⟨fuel - 1, by omega⟩
    have hk : k < ops.size := by omega
    have hkt : k < ops.toList.length := by rw [Array.length_toList]; exact hk
    rw [List.drop_eq_getElem_cons hkt] at h
    have hok : ops[k]? = some ops.toList[k] := by rw [Array.getElem?_eq_getElem hk, Array.getElem_toList]
    have hB := List.all_eq_true.1 hb k (List.mem_range.2 hk)
    rw [hok] at hB
    simp only [Bool.or_eq_true, decide_eq_true_eq, Option.map_some, Option.getD_some] at hB
    have hback : ∀ e ∈ ops.toList[k].after, Region.binds md e = true → e.on < k := by
      intro e he hbd
      rcases hB with h1 | h1
      · omega
      · have h2 := Array.all_eq_true'.1 h1 e he
        rw [hbd] at h2
        simpa using h2
    have hin : k ∈ Region.ready md ops listed := mem_ready.2 ⟨hu k (Nat.le_refl _) hk, _, hok, fun e he hbd => hl2 _ (hback e he hbd)⟩
    refine ⟨fun h0 => (by rw [h0] at hin; cases hin), fun j hj => ?_⟩
    obtain ⟨h1, o, ho, hall⟩ := mem_ready.1 hj
    have hjlt : j < ops.size := (Array.getElem?_eq_some_iff.1 ho).1
    have hjk : j = k := by
      rcases Nat.lt_trichotomy j k with h2 | h2 | h2
      · rw [hl j h2] at h1; cases h1
      · exact h2
      · exfalso
        have h3 := List.all_eq_true.1 hc j (List.mem_range.2 hjlt)
        simp only [Bool.or_eq_true, decide_eq_true_eq] at h3
        rcases h3 with h3 | h3
        · omega
        · obtain ⟨o', ho', e, he, hbd, hon⟩ := Region.waitsFor_spec h3
          have : o' = o := Option.some.inj (ho'.symm.trans ho)
          subst this
          have h4 := hall e he hbd
          rw [hon, getD_both (hu (j - 1) (by omega) (by omega))] at h4
          cases h4
    subst hjk
    unfold wpOpIn
    simp only [hok]
    have next : ∀ a' w', wpListIn F n P ops Q (ops.toList.drop (j + 1)) a' w' → wpAnyIn F n P md ops Q f (listed.setIfInBounds j true) a' w' := fun a' w' h' => by
      refine wpAnyIn_chain hc hb r (j + 1) f _ a' w' (by omega) (by omega) (by omega) (by simp [hsz]) ?_ ?_ ?_ h'
      · intro i hi
        by_cases hij : i = j
        · subst hij; simp [hsz, hk]
        · rw [getD_set_ne true (by omega)]; exact hl i (by omega)
      · intro i hi
        by_cases hij : i = j
        · subst hij; simp [hsz, hk]
        · rw [getD_set_ne false (by omega)]; exact hl2 i (by omega)
      · intro i hi hi2
        rw [getD_set_ne true (by omega)]; exact hu i (by omega) hi2
    simp only [wpListIn] at h
    split
    · rename_i hw; simp only [hw, if_true] at h; exact Oper.wpIn_mono next h
    · rename_i hw; simp only [hw] at h; exact ⟨h.1, next _ _ h.2⟩

theorem wpAnyIn_head {l ts : List Oper} {Q : Act → Prop} {Q' : Exit → Act → World → Prop} (hnd : l.all noDefer = true) (hgd : l.all (guardB l.length) = true) (hs : Region.sinkB md (l ++ ts).toArray l.length = true)
    (hc : Region.chainB md (l ++ ts).toArray l.length = true) (hb : backB md (l ++ ts).toArray l.length = true) (hb0 : backB md (l ++ ts).toArray 0 = true) (ht : 0 < ts.length)
    (hQ : ∀ a w, C w → Q a → wpListIn F n P (l ++ ts).toArray Q' ts a w) : ∀ (fuel : Nat) (listed : Array Bool) (a : Act) (w : World), C w →
    HeadInv md (l ++ ts).toArray l.length listed → wpAnyQIn F n P md l.toArray C Q fuel (listed.extract 0 l.length) a → wpAnyIn F n P md (l ++ ts).toArray Q' (fuel + ts.length) listed a w
  | fuel, listed, a, w, hw, inv, h => by
    have hN : l.length < (l ++ ts).toArray.size := by rw [List.size_toArray, List.length_append]; omega
    have hxs : (listed.extract 0 l.length).size = l.length := by rw [Array.size_extract, inv.size]; omega
    have hx : ∀ (i : Nat) (b : Bool), i < l.length → (listed.extract 0 l.length).getD i b = listed.getD i b := by
      intro i b hi
      have h2 : i < listed.size := by rw [inv.size]; omega
      rw [Array.getD_eq_getD_getElem?, Array.getD_eq_getD_getElem?, Array.getElem?_extract, if_pos (by omega), Nat.zero_add]
    have hxo : ∀ (i : Nat), l.length ≤ i → (listed.extract 0 l.length).getD i false = false := by
      intro i hi
      rw [Array.getD_eq_getD_getElem?, Array.getElem?_extract, if_neg (by omega)]; rfl
    have hlo : ∀ (i : Nat), l.length ≤ i → listed.getD i false = false := by
      intro i hi
      rcases Nat.lt_or_ge i (l ++ ts).toArray.size with h1 | h1
      · exact getD_both (inv.tail i hi h1)
      · have h2 : ¬ i < listed.size := by rw [inv.size]; omega
        simp [h2]
    have hre : ∀ i, i < l.length → (i ∈ Region.ready md (l ++ ts).toArray listed ↔ i ∈ Region.ready md l.toArray (listed.extract 0 l.length)) := by
      intro i hi
      rw [mem_ready, mem_ready, hx i true hi, app_get hi]
      have he : ∀ k, (listed.extract 0 l.length).getD k false = listed.getD k false := by
        intro k
        rcases Nat.lt_or_ge k l.length with h1 | h1
        · exact hx k false h1
        · rw [hxo k h1, hlo k h1]
      simp only [he]
    -- the tail comes up: all is listed
    have whole : ∀ t, l.length ≤ t → t ∈ Region.ready md (l ++ ts).toArray listed → ∀ i, i < l.length → listed.getD i true = true := by
      intro t htl hr i hi
      cases hl : listed.getD i true with
      | true => rfl
      | false => exact absurd hr (tail_waits hs hc hN inv _ i rfl hi hl t htl)
    have closing : (∀ i, i < l.length → listed.getD i true = true) → ∀ f, ts.length ≤ f → Q a → wpAnyIn F n P md (l ++ ts).toArray Q' f listed a w := by
      intro hall f hf hq
      refine wpAnyIn_chain hc hb ts.length l.length f listed a w (by simp) (Nat.le_refl _) hf inv.size hall ?_ (fun i hi hi2 => inv.tail i hi hi2) ?_
      · intro i hi
        have h2 : i < listed.size := by rw [inv.size]; omega
        have := hall i hi
        simp [h2] at this ⊢
        exact this
      · have := hQ a w hw hq
        simpa using this
    have done : (∀ i, i < l.length → listed.getD i true = true) → Region.ready md l.toArray (listed.extract 0 l.length) = [] := by
      intro hall
      apply List.eq_nil_iff_forall_not_mem.2
      intro j hj
      obtain ⟨h1, o, ho, _⟩ := mem_ready.1 hj
      have hjlt : j < l.length := by have := (Array.getElem?_eq_some_iff.1 ho).1; simpa using this
      rw [hx j true hjlt, hall j hjlt] at h1; cases h1
    have some : Region.ready md (l ++ ts).toArray listed = [] → ∀ d i, i = d → i < l.length → listed.getD i true = true := by
      intro hnil d
      induction d using Nat.strongRecOn with
      | _ d ih =>
        rintro i rfl hi
        cases hl : listed.getD i true with
        | true => rfl
        | false =>
          exfalso
          have hilt : i < (l ++ ts).toArray.size := by omega
          have hok : (l ++ ts).toArray[i]? = some (l ++ ts).toArray[i] := Array.getElem?_eq_getElem hilt
          have hB := List.all_eq_true.1 hb0 i (List.mem_range.2 hilt)
          rw [hok] at hB
          simp only [Bool.or_eq_true, decide_eq_true_eq, Option.map_some, Option.getD_some, Nat.not_lt_zero, false_or] at hB
          have : i ∈ Region.ready md (l ++ ts).toArray listed := mem_ready.2 ⟨hl, _, hok, fun e he hbd => by
            have h2 := Array.all_eq_true'.1 hB e he
            rw [hbd] at h2
            have h3 : e.on < i := by simpa using h2
            have h4 := ih e.on h3 e.on rfl (by omega)
            have h5 : e.on < listed.size := by rw [inv.size]; omega
            rw [Array.getD_eq_getD_getElem?, Array.getElem?_eq_getElem h5] at h4 ⊢
            exact h4⟩
          rw [hnil] at this; cases this
    cases fuel with
    | zero =>
      obtain ⟨h0, hq⟩ := h
      rw [Nat.zero_add]
      obtain ⟨t, ht2⟩ : ∃ t, ts.length = t + 1 := ⟨ts.length - 1, by omega⟩
      by_cases hall : ∀ i, i < l.length → listed.getD i true = true
      · exact closing hall _ (Nat.le_refl _) hq
      · -- nothing is ready though something waits: then the whole has nothing ready, which the lexical order bars
        rw [ht2]
        refine ⟨fun hnil => ?_, fun i hi => ?_⟩
        · exact (hall (fun i hi => some hnil i i rfl hi)).elim
        · rcases Nat.lt_or_ge i l.length with h1 | h1
          · have := (hre i h1).1 hi; rw [h0] at this; cases this
          · exact (hall (whole i h1 hi)).elim
    | succ f =>
      obtain ⟨h0, hstep⟩ := h
      by_cases hall : ∀ i, i < l.length → listed.getD i true = true
      · exact closing hall _ (by omega) (h0 (done hall))
      · rw [show f + 1 + ts.length = (f + ts.length) + 1 by omega]
        refine ⟨fun hnil => (hall (fun i hi => some hnil i i rfl hi)).elim, fun i hi => ?_⟩
        · have h1 : i < l.length := by
            rcases Nat.lt_or_ge i l.length with h1 | h1
            · exact h1
            · exact (hall (whole i h1 hi)).elim
          have hil : i < listed.size := by rw [inv.size]; omega
          have hq := hstep i ((hre i h1).1 hi)
          have hset : (listed.extract 0 l.length).setIfInBounds i true = (listed.setIfInBounds i true).extract 0 l.length := by
            apply Array.ext_getElem?
            intro k
            rw [Array.getElem?_setIfInBounds, Array.getElem?_extract, Array.getElem?_extract, Array.getElem?_setIfInBounds, hxs, Nat.zero_add, Nat.sub_zero, Array.size_setIfInBounds]
            have hls : l.length ≤ listed.size := by rw [inv.size]; omega
            by_cases hik : i = k
            · subst hik
              simp [h1, hil, show i < min l.length listed.size by omega]
            · simp [hik]
          rw [hset] at hq
          unfold qOpIn at hq
          unfold wpOpIn
          rw [app_get h1]
          cases ho : l.toArray[i]? with
          | none =>
            rw [List.getElem?_toArray, List.getElem?_eq_none_iff] at ho
            omega
          | some o =>
            simp only [ho] at hq ⊢
            obtain ⟨ha, hq⟩ := hq
            have hmem : o ∈ l := by rw [List.getElem?_toArray] at ho; exact List.mem_of_getElem? ho
            rw [wanted_app (List.all_eq_true.1 hgd o hmem)]
            have nx : ∀ a' w', C w' → wpAnyQIn F n P md l.toArray C Q f ((listed.setIfInBounds i true).extract 0 l.length) a' → wpAnyIn F n P md (l ++ ts).toArray Q' (f + ts.length) (listed.setIfInBounds i true) a' w' := fun a' w' hw' h' =>
              wpAnyIn_head hnd hgd hs hc hb hb0 ht hQ f _ a' w' hw' (inv.set hi h1) h'
            split
            · rename_i hwt; simp only [hwt, if_true] at hq; exact wpIn_of_quietR (List.all_eq_true.1 hnd o hmem) hw nx ha hq
            · rename_i hwt; simp only [hwt] at hq; exact ⟨ha w hw, nx _ _ hw hq⟩
/-- What a region must be: N quiet operations, then a tail. -/
def tailOK (N : Nat) (L : List Oper) : Bool :=
  (L.take N).all noDefer && (L.take N).all (guardB N) && Region.sinkB .any L.toArray N && Region.chainB .any L.toArray N && backB .any L.toArray N && backB .any L.toArray 0 && decide (N < L.length) && Region.lexB .any (L.take N).toArray
theorem wpIn_region_tail (N : Nat) {id : Nat} {Q : Exit → Act → World → Prop} {a : Act} {w : World} {L : List Oper} (hm : P.follows .mixedOrders = true) (hok : tailOK N L = true)
    (h : wpQuietIn F n P (L.take N).toArray (fun w' => ∃ n, w' = w.drewN n) (fun a' => ∀ w', (∃ n, w' = w.drewN n) → wpListIn F n P L.toArray Q (L.drop N) a' w') (L.take N) a) : (Code.region id L.toArray true).wpIn F n P Q a w := by
  simp only [tailOK, Bool.and_eq_true, decide_eq_true_eq] at hok
  obtain ⟨⟨⟨⟨⟨⟨⟨hnd, hgd⟩, hs⟩, hc⟩, hb⟩, hb0⟩, hlt⟩, hB⟩ := hok
  have hlen : (L.take N).length = N := by rw [List.length_take]; omega
  have htl : 0 < (L.drop N).length := by rw [List.length_drop]; omega
  have hap : L.take N ++ L.drop N = L := List.take_append_drop N L
  refine wpIn_region_any hm ?_
  simp only [Region.lexB, Bool.and_eq_true] at hB
  have hq := wpAnyQIn_lex (F := F) (n := n) (P := P) (C := fun w' => ∃ n, w' = w.drewN n) (Q := fun a' => ∀ w', (∃ n, w' = w.drewN n) → wpListIn F n P L.toArray Q (L.drop N) a' w') (md := .any) hB.1 (L.take N) 0 (Array.replicate (L.take N).length false) a (by simp) (by simpa using hB.2) h
  have hfin := wpAnyIn_head (F := F) (n := n) (P := P) (md := .any) (C := fun w' => ∃ n, w' = w.drewN n) (Q := fun a' => ∀ w', (∃ n, w' = w.drewN n) → wpListIn F n P L.toArray Q (L.drop N) a' w') (l := L.take N) (ts := L.drop N) (Q' := Q) hnd (by rw [hlen]; exact hgd) (by rw [hap, hlen]; exact hs) (by rw [hap, hlen]; exact hc) (by rw [hap, hlen]; exact hb) (by rw [hap]; exact hb0) htl
    (fun a' w' hw' hh => by rw [hap]; exact hh w' hw') (L.take N).length (Array.replicate L.length false) a { w with drawn := w.drawn + 1 } ⟨1, rfl⟩ ?_ ?_
  · rw [hap] at hfin
    have : (L.take N).length + (L.drop N).length = L.toArray.size := by rw [← List.length_append, hap, List.size_toArray]
    rw [this] at hfin
    simpa using hfin
  · rw [hap]
    exact ⟨by simp, fun j oj _ hl e _ _ => (by rw [getD_replicate_false] at hl; exact Bool.noConfusion hl), fun t _ htt => (by rw [List.size_toArray] at htt; simp [htt])⟩
  · have : (Array.replicate L.length false).extract 0 (L.take N).length = Array.replicate (L.take N).length false := by
      rw [hlen]
      apply Array.ext_getElem?
      intro k
      rw [Array.getElem?_extract, Array.getElem?_replicate, Array.getElem?_replicate]
      simp only [Array.size_replicate, Nat.zero_add]
      by_cases hk : k < N
      · rw [if_pos (by omega), if_pos (by omega), if_pos hk]
      · rw [if_neg (by omega), if_neg hk]
    rw [this]
    exact hq
end
end Go.Proofs.Ytckhkagkpldoiaa
