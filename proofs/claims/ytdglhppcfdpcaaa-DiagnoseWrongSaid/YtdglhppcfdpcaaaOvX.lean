/- Several texts in one: OwnV BinI Sto Sx. -/
import Derived.Test.YtdglhppcfdpcaaaOwX
import Derived.Laws.StructEq
import Derived.IntWalk
namespace Go.Proofs.Ytdglhppcfdpcaaa
open Go Go.RowKit

section
variable {F : Fence} {n : Nat} {P : Program} {ops : Array Oper} {Q : Exit → Act → World → Prop} {a : Act} {W W' : World} {rest : List Oper} {o : Oper} {B G : Nat} {base : World} {L : Objs}
end
section
variable {P : Program} {w : World} {o : Oper} {ρ : Operand → Value}
end
section
variable {F : Fence} {n : Nat} {P : Program} {ops : Array Oper} {Q : Exit → Act → World → Prop} {a : Act} {W : World} {rest : List Oper} {o : Oper}
end
end Go.Proofs.Ytdglhppcfdpcaaa
namespace Go.Proofs.Ytdglhppcfdpcaaa
open Go Go.RowKit
section
variable {P : Program} {T : TypeId} {x y : Operand} {a b : Int} {w : World}
theorem bin_add_in (h0 : -9223372036854775808 ≤ a + b) (h1 : a + b ≤ 9223372036854775807) : (do eqGuard .add T x y (.int .i64 a) (.int .i64 b); Go.binOp .add T (.int .i64 a) (.int .i64 b) : Sem Value).run P w = .ok (.int .i64 (a + b)) w := by
  simp [eqGuard, Go.binOp, Op.intArith, IntWalk.i64_in _ (And.intro h0 h1)]
theorem bin_sub_in (h0 : -9223372036854775808 ≤ a - b) (h1 : a - b ≤ 9223372036854775807) : (do eqGuard .sub T x y (.int .i64 a) (.int .i64 b); Go.binOp .sub T (.int .i64 a) (.int .i64 b) : Sem Value).run P w = .ok (.int .i64 (a - b)) w := by
  simp [eqGuard, Go.binOp, Op.intArith, IntWalk.i64_in _ (And.intro h0 h1)]
theorem bin_mul_in (h0 : -9223372036854775808 ≤ a * b) (h1 : a * b ≤ 9223372036854775807) : (do eqGuard .mul T x y (.int .i64 a) (.int .i64 b); Go.binOp .mul T (.int .i64 a) (.int .i64 b) : Sem Value).run P w = .ok (.int .i64 (a * b)) w := by
  simp [eqGuard, Go.binOp, Op.intArith, IntWalk.i64_in _ (And.intro h0 h1)]
end
section
variable {P : Program} {d : Nat} {xs ys : Array Value} {f : Field} {fs : List Field} {w : World} {r e : Bool} {a b : Int}
end
section
variable {P : Program} {w : World} {o : Oper} {ρ : Operand → Value}
def u8I (x : Int) : UInt8 := UInt8.ofNat (x % 256).toNat
theorem u8I_toNat (x : Int) : ((u8I x).toNat : Int) = x % 256 := by
  unfold u8I
  rw [UInt8.toNat_ofNat']
  omega
theorem cvt_u8 {S T : TypeId} (hS : P.underlying S = some (.int .i64)) (hT : P.underlying T = some (.int .u8)) {x : Int} : (convert S T (.int .i64 x)).run P w = .ok (.int .u8 ((u8I x).toNat : Int)) w := by
  rw [u8I_toNat]
  simp [convert, run_underlying hS, run_underlying hT, Sem.run_bind, Conv.intToInt, IntKind.wrap, IntKind.bits, IntKind.signed]
end
end Go.Proofs.Ytdglhppcfdpcaaa
namespace Go.Proofs.Ytdglhppcfdpcaaa
open Go Go.RowKit

/-- All blocks but g are kept; a cell of g is as it was, or holds what ws says. -/
structure StR (g : Nat) (ws : List (Nat × Value)) (x y : World) : Prop where
  os : y.os = x.os
  tape : y.tape = x.tape
  output : y.output = x.output
  size : x.heap.size ≤ y.heap.size
  far : ∀ b, b < x.heap.size → b ≠ g → y.heap[b]? = x.heap[b]?
  ch : ∀ t cs, x.heap[g]? = some (.cells cs t (0, 0)) → ∃ cs', y.heap[g]? = some (.cells cs' t (0, 0)) ∧ cs'.size = cs.size ∧ ∀ i : Nat, cs'[i]? = cs[i]? ∨ ∃ v, (i, v) ∈ ws ∧ cs'[i]? = some v
section
variable {g : Nat} {ws : List (Nat × Value)} {x y z w w' W W' : World} {B : Nat} {base : World} {L L' : Objs}
theorem StR.trans (x y z : World) (h : StR g ws x y) (k : StR g ws y z) : StR g ws x z :=
  ⟨k.os.trans h.os, k.tape.trans h.tape, k.output.trans h.output, Nat.le_trans h.size k.size, fun b hb hg => (k.far b (Nat.lt_of_lt_of_le hb h.size) hg).trans (h.far b hb hg),
    fun t cs hx => by
      obtain ⟨c1, h1, h2, h3⟩ := h.ch t cs hx
      obtain ⟨c2, k1, k2, k3⟩ := k.ch t c1 h1
      refine ⟨c2, k1, k2.trans h2, fun i => ?_⟩
      rcases k3 i with e | e
      · rcases h3 i with e2 | ⟨v, m, e2⟩
        · exact .inl (e.trans e2)
        · exact .inr ⟨v, m, e.trans e2⟩
      · exact .inr e⟩
theorem StR.refl (x : World) : StR g ws x x := ⟨rfl, rfl, rfl, Nat.le_refl _, fun _ _ _ => rfl, fun _ cs h => ⟨cs, h, rfl, fun _ => .inl rfl⟩⟩
theorem StR.drew (x : World) : StR g ws x x.drew := ⟨rfl, rfl, rfl, Nat.le_refl _, fun _ _ _ => rfl, fun _ cs h => ⟨cs, h, rfl, fun _ => .inl rfl⟩⟩
theorem StR.below (h : Below x.heap.size x y) : StR g ws x y :=
  have hs := fun b (hb : b < x.heap.size) => h.block b hb
  ⟨h.os, h.tape, h.output, h.size, fun b hb _ => hs b hb, fun _ cs hx => ⟨cs, (hs g (Array.getElem?_eq_some_iff.1 hx).1).trans hx, rfl, fun _ => .inl rfl⟩⟩
/-- A cell that stands as it was told. -/
def CellIs (g i : Nat) (v : Value) (w : World) : Prop := ∃ t cs, w.heap[g]? = some (.cells cs t (0, 0)) ∧ cs[i]? = some v
theorem StR.keeps {i : Nat} {v : Value} (hu : ∀ u, (i, u) ∈ ws → u = v) (h : CellIs g i v x) (k : StR g ws x y) : CellIs g i v y := by
  obtain ⟨t, cs, h1, h2⟩ := h
  obtain ⟨c1, k1, _, k3⟩ := k.ch t cs h1
  rcases k3 i with e | ⟨u, m, e⟩
  · exact ⟨t, c1, k1, e.trans h2⟩
  · exact ⟨t, c1, k1, by rw [← hu u m]; exact e⟩
theorem StR.cell {k i : Nat} {t : TypeId} {cs : Array Value} {v : Value} (OW : Own B base L w) (hk : L[k]? = some (g, .cells cs t (0, 0))) (hv : cs[i]? = some v) (hu : ∀ u, (i, u) ∈ ws → u = v) (h : StR g ws w w') : w'.cell? ⟨g, i, none⟩ = some v := by
  obtain ⟨t2, c2, h1, h2⟩ := h.keeps hu ⟨t, cs, OW.get hk, hv⟩
  rw [cell_of_row w' g i c2 t2 (0, 0) h1]
  exact h2
theorem StR.get {k : Nat} {o : Nat × Obj} (OW : Own B base L w) (hk : L[k]? = some o) (hne : o.1 ≠ g) (h : StR g ws w w') : w'.heap[o.1]? = some o.2 :=
  (h.far _ (OW.lt (List.mem_of_getElem? hk)) hne).trans (OW.get hk)
theorem Own.apart (OW : Own B base L w) {j k : Nat} {x y : Nat × Obj} (hj : L[j]? = some x) (hk : L[k]? = some y) (hne : j ≠ k) : x.1 ≠ y.1 := by
  obtain ⟨h1, rfl⟩ := List.getElem?_eq_some_iff.1 hj
  obtain ⟨h2, rfl⟩ := List.getElem?_eq_some_iff.1 hk
  have hp := List.pairwise_iff_getElem.1 OW.nd
  rcases Nat.lt_or_gt_of_ne hne with h | h
  · exact hp j k h1 h2 h
  · exact Ne.symm (hp k j h2 h1 h)
end

section
variable {F : Fence} {n : Nat} {P : Program} {L : List Oper} {N : Nat} {Q : Exit → Act → World → Prop} {V : Nat → Value → World → Prop} {D : Nat → List Nat} {a : Act} {w : World} {k : Nat} {o : Oper} {g : Nat} {ws : List (Nat × Value)}
end
end Go.Proofs.Ytdglhppcfdpcaaa
namespace Go.Proofs.Ytdglhppcfdpcaaa
open Go Go.RowKit
section
variable {xs : Nat → Value} {l : List Oper} {a : Act} {t : Nat} {v : Value}
variable {P : Program} {W w' : World} {B : Nat} {base : World} {L : Objs} {g off : Nat} {T ty : TypeId} {cs : Array Value}
theorem ldS (OW : Hid (Own B base L W)) (hR : BelowR W w') (k : Nat) (hk : L[k]? = some (g, .cells cs T (0, 0))) (n : Nat) {l : List Value} (hl : (cs.toList.drop off).take n = l) {d : TypeDesc} (hu : P.underlying ty = some d) (hd : (match d with | .struct _ | .array _ _ => true | _ => false) = true)
    (hn : l.length = n) (hi : (P.info? ty).map (·.size) = some n) : (loadVar ty ⟨g, off, none⟩).run P w' = .ok (.agg l.toArray) w' := by
  subst hn
  exact run_loadVar_sub w' g off T ty cs l ((OW.out.step hR).get hk) hl hu hd hi
theorem ldR (OW : Hid (Own B base L W)) (hR : BelowR W w') (k : Nat) (hk : L[k]? = some (g, .cells cs T (0, 0))) {d : TypeDesc} (hu : P.underlying ty = some d) (hd : (match d with | .struct _ | .array _ _ => true | _ => false) = true) (hi : (P.info? ty).map (·.size) = some cs.size) : (loadVar ty ⟨g, 0, none⟩).run P w' = .ok (.agg cs) w' :=
  run_loadVar_row w' g T ty cs (0, 0) d ((OW.out.step hR).get hk) hu hd hi
end
end Go.Proofs.Ytdglhppcfdpcaaa
