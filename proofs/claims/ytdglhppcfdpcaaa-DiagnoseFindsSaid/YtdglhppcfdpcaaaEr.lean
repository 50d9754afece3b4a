/- A parameter that is a slice of structs: its objects. -/
import Derived.Test.YtdglhppcfdpcaaaEeE
import Derived.Test.YtdglhppcfdpcaaaLeX
namespace Go.Proofs.Ytdglhppcfdpcaaa.E
open Go Go.RowKit Go.Shelf
set_option linter.unusedVariables false
theorem cell_obj {w : World} {b o : Nat} {v : Value} (h : w.cell? ⟨b, o, none⟩ = some v) : ∃ cs t fr, w.heap[b]? = some (.cells cs t fr) := by
  unfold World.cell? at h
  cases hb : w.heap[b]? with
  | none => simp [hb] at h
  | some x =>
    cases x with
    | cells cs t fr => exact ⟨cs, t, fr, rfl⟩
    | _ => simp [hb] at h
theorem slF_get {α : Type} {en : α → List Value} {k : Nat} (hk : ∀ y, (en y).length = k) {xs : List α} {i r : Nat} (hi : i < xs.length) (hr : r < k) (d : α) : (slF en xs)[i * k + r]? = (en (xs.getD i d))[r]? := by
  have h := congrArg (fun l => l[r]?) (sl_part (d := d) hk hi)
  simp only [List.getElem?_take_of_lt hr, List.getElem?_drop] at h
  exact h
/-- The rows of a parameter are a slice that is read. -/
theorem rdS_sr {α : Type} {en : α → List Value} {k : Nat} {w : World} {A : Option Addr} {n c : Nat} {xs : List α} (hk : ∀ y, (en y).length = k) (h0 : 0 < k) (h : RdS k w A (xs.map en)) (hn : xs.length = n) : ∃ bs, Has bs w ∧ SrE en (.slice A n c) xs bs := by
  subst hn
  cases hx : xs with
  | nil => exact ⟨[], ⟨fun _ h => by simp at h, List.Pairwise.nil⟩, .inl ⟨rfl, A, c, rfl⟩⟩
  | cons x0 ys =>
    rw [← hx]
    have hpos : 0 < xs.length := by rw [hx]; exact Nat.zero_lt_succ _
    obtain ⟨_, b, o, rfl, hlt, hc⟩ := h 0 (en x0) (by rw [hx]; rfl)
    have hj : ∃ v, (en x0)[0]? = some v := ⟨(en x0)[0]'(by rw [hk]; exact h0), List.getElem?_eq_getElem _⟩
    obtain ⟨v0, hv0⟩ := hj
    obtain ⟨cs, t, fr, hb⟩ := cell_obj (hc 0 v0 hv0)
    refine ⟨[(b, .cells cs t fr)], ⟨fun z hz => by rw [List.mem_singleton.1 hz]; exact hb, List.pairwise_singleton _ _⟩, .inr ⟨b, o, cs, t, fr, c, rfl, List.mem_singleton.2 rfl, ?_⟩⟩
    have hL : (slF en xs).length = xs.length * k := slF_lenk hk rfl
    have key : ∀ j, j < xs.length * k → cs.toList[o + j]? = (slF en xs)[j]? := by
      intro j hj
      have hi : j / k < xs.length := Nat.div_lt_of_lt_mul (by rw [Nat.mul_comm]; exact hj)
      have hr : j % k < k := Nat.mod_lt _ h0
      have hd : j = j / k * k + j % k := (Nat.div_add_mod' j k).symm
      obtain ⟨_, b', o', he, _, hc'⟩ := h (j / k) (en (xs.getD (j / k) x0)) (by rw [List.getElem?_map, List.getD_eq_getElem?_getD, List.getElem?_eq_getElem hi]; rfl)
      cases he
      have hv : (en (xs.getD (j / k) x0))[j % k]? = some ((en (xs.getD (j / k) x0))[j % k]'(by rw [hk]; exact hr)) := List.getElem?_eq_getElem _
      have h1 := hc' (j % k) _ hv
      rw [cell_of_row w b _ cs t fr hb, ← Array.getElem?_toList] at h1
      have h2 := slF_get hk hi hr x0
      rw [← hd] at h2
      rw [h2, hv, ← h1]
      congr 1
      omega
    rw [hL]
    apply List.ext_getElem?
    intro j
    by_cases hj : j < xs.length * k
    · rw [List.getElem?_take_of_lt hj, List.getElem?_drop]
      exact key j hj
    · rw [List.getElem?_eq_none (by rw [List.length_take]; omega), List.getElem?_eq_none (by omega)]
theorem SrE.mono {α : Type} {en : α → List Value} {v : Value} {xs : List α} {bs bs' : Objs} (h : SrE en v xs bs) (hs : ∀ x ∈ bs, x ∈ bs') : SrE en v xs bs' := by
  rcases h with h | ⟨g, off, cs, t, fr, c, h1, h2, h3⟩
  · exact .inl h
  · exact .inr ⟨g, off, cs, t, fr, c, h1, hs _ h2, h3⟩
/-- Objects of two parameters, put together: what both hold lies there once. -/
theorem Has.join {w : World} : ∀ {a b : Objs}, Has a w → Has b w → ∃ c, Has c w ∧ (∀ x ∈ a, x ∈ c) ∧ ∀ x ∈ b, x ∈ c
  | [], b, _, hb => ⟨b, hb, fun x h => by simp at h, fun _ h => h⟩
  | y :: a, b, ha, hb => by
    have ha' : Has a w := ⟨fun x hx => ha.obj x (List.mem_cons_of_mem _ hx), (List.pairwise_cons.1 ha.nd).2⟩
    obtain ⟨c, hc, h1, h2⟩ := Has.join ha' hb
    have hy := ha.obj y (List.mem_cons_self ..)
    by_cases he : ∃ z ∈ c, z.1 = y.1
    · obtain ⟨z, hz, e⟩ := he
      have hzy : z = y := by
        have := hc.obj z hz
        rw [e, hy] at this
        exact Prod.ext e (Option.some.inj this).symm
      exact ⟨c, hc, fun x hx => by
        rcases List.mem_cons.1 hx with rfl | hx
        · rw [← hzy]; exact hz
        · exact h1 x hx, h2⟩
    · refine ⟨y :: c, ⟨fun x hx => ?_, List.pairwise_cons.2 ⟨fun z hz e => he ⟨z, hz, e.symm⟩, hc.nd⟩⟩, fun x hx => ?_, fun x hx => List.mem_cons_of_mem _ (h2 x hx)⟩
      · rcases List.mem_cons.1 hx with rfl | hx
        · exact hy
        · exact hc.obj x hx
      · rcases List.mem_cons.1 hx with rfl | hx
        · exact List.mem_cons_self ..
        · exact List.mem_cons_of_mem _ (h1 x hx)
/-- The contract of a law that reads a parameter's slice. -/
theorem Con.belowR {P : Program} {f : FuncId} {args : Array Value} {u : Value} {bs : Objs} (h : Con P f args [.c bs] [] (fun _ => []) (fun _ => u)) (w : World) (hh : Has bs w) : Calls P f args w fun e w' => e = .returned u ∧ Below w.heap.size w w' := by
  refine (callsIn_wide (n := 6)).1 ((callsIn_wide.2 (h.out w [bs] ⟨rfl, trivial⟩ (by simpa using hh))).mono ?_)
  rintro e w' ⟨E, ds, rfl, h1, h2⟩
  exact ⟨rfl, h2.os, h2.tape, h2.output, h2.size, fun b hb => h2.far b hb (by simp)⟩
end Go.Proofs.Ytdglhppcfdpcaaa.E
