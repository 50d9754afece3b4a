/- Marks among the deferred calls: a function whose loop holds a range over a function leaves with as many as there were rounds. No program in sight. -/
import Derived.Test.YtckhkagkpldoiaaRf3
import Derived.RangeFuncLeaves
import Derived.Shelf.Abstract
namespace Go.Proofs.Ytckhkagkpldoiaa
open Go Go.RowKit Go.Shelf

/-- The caller's blocks, as an iterator that began at g0 meets them: never g0, and from g0 on cells alone. -/
structure Mine (g0 : Nat) (O : Nat → Prop) (W : World) : Prop where
  non : ¬ O g0
  lt : ∀ b, O b → b < W.heap.size
  cells : ∀ b o, g0 ≤ b → O b → W.heap[b]? = some o → o.isCells = true
theorem Mine.turn {g0 : Nat} {O : Nat → Prop} {W W' : World} (h : Mine g0 O W) (t : Turn (fun b => ¬ O b) W W') : Mine g0 O W' :=
  ⟨h.non, fun b hb => Nat.lt_of_lt_of_le (h.lt b hb) t.size, fun b o hg hb ho => h.cells b o hg hb ((t.same b (h.lt b hb) (fun e => e hb)).symm.trans ho)⟩
theorem Mine.grow {g0 : Nat} {K O O' : Nat → Prop} {W W' : World} (h : Mine g0 O W) (hg : g0 < W.heap.size) (g : Grow K O O' W W') : Mine g0 O' W' :=
  ⟨fun e => h.non (g.old _ hg e), g.new, fun b o hb ho hs => by
    cases hc : o.isCells with
    | true => rfl
    | false =>
      obtain ⟨o', h1, h2⟩ := g.cells b o ho hs hc
      rw [h.cells b o' hb (g.old b (Array.getElem?_eq_some_iff.1 h1).1 ho) h1] at h2
      cases h2⟩
theorem World.lt_of_cell {w : World} {p : Addr} {v : Value} (h : w.cell? p = some v) : p.block < w.heap.size := by
  obtain ⟨o, ho, _⟩ := cells_of_cell h
  exact (Array.getElem?_eq_some_iff.1 ho).1

/-- A round at the wide fence serves in a round. -/
theorem roundIn_wide {n m l l' : Nat} {P : Program} {f : FuncId} {tmps : Array Value} {assign body : Code} {w : World} {R : Ending → World → Prop}
    (h : RoundIn Fence.wide n P l f tmps assign body w R) : RoundIn (Fence.wide.inRound l') m P l f tmps assign body w R :=
  ⟨trivial, fun c cs _ => h.2 c cs (room_wide _)⟩

/-- A post that no panic meets: ahead of a region that draws, where the function's own post reads the frame at a panic. -/
def calmQ (Q : Exit → Act → World → Prop) : Exit → Act → World → Prop
  | .panic _, _, _ => False
  | .outgrown, _, _ => False
  | e, a, w => Q e a w
theorem wpIn_calm {F : Fence} {n : Nat} {P : Program} {c : Code} {Q : Exit → Act → World → Prop} {a : Act} {w : World} (h : c.wpIn F n P (calmQ Q) a w) : c.wpIn F n P Q a w :=
  Code.wpIn_mono (fun e a w q => by cases e <;> first | exact q | exact q.elim) h
theorem calmQ_normal {Q : Exit → Act → World → Prop} {a : Act} {w : World} (h : Q .normal a w) : calmQ Q .normal a w := h

/-- Deferred marks, the newest first, each a block of its own from lo on and before hi. -/
def Marks (lo : Nat) : Nat → List Deferred → World → Prop
  | _, [], _ => True
  | hi, d :: ds, W => ∃ D, d = { target := .collected D, args := #[] } ∧ lo ≤ D ∧ D < hi ∧ W.heap[D]? = some (.deferred (some [])) ∧ Marks lo D ds W
theorem Marks.same {lo : Nat} {W W' : World} : ∀ {ds : List Deferred} {hi : Nat}, Marks lo hi ds W → (∀ D, lo ≤ D → D < hi → W.heap[D]? = some (.deferred (some [])) → W'.heap[D]? = some (.deferred (some []))) → Marks lo hi ds W'
  | [], _, _, _ => trivial
  | _ :: _, _, ⟨D, h1, h2, h3, h4, h5⟩, k => ⟨D, h1, h2, h3, k D h2 h3 h4, h5.same fun E e1 e2 => k E e1 (Nat.lt_trans e2 h3)⟩
theorem Marks.up {lo hi hi' : Nat} {W : World} (h : hi ≤ hi') : ∀ {ds : List Deferred}, Marks lo hi ds W → Marks lo hi' ds W
  | [], _ => trivial
  | _ :: _, ⟨D, h1, h2, h3, h4, h5⟩ => ⟨D, h1, h2, Nat.lt_of_lt_of_le h3 h, h4, h5⟩
theorem Marks.cons {lo hi hi' D : Nat} {W : World} {ds : List Deferred} (h : Marks lo hi ds W) (h1 : hi ≤ D) (h2 : lo ≤ D) (h3 : D < hi') (h4 : W.heap[D]? = some (.deferred (some []))) : Marks lo hi' ({ target := .collected D, args := #[] } :: ds) W :=
  ⟨D, rfl, h2, h3, h4, h.up h1⟩
theorem leaves_marks {F : Fence} {n : Nat} {P : Program} {fn : Func} {tmps : Array Value} {R : Ending → World → Prop} {g0 : Nat} {O : Nat → Prop} : ∀ (ds : List Deferred) (hi : Nat) (w : World), Marks g0 hi ds w → Mine g0 O w →
    (∀ w', Turn (fun b => ¬ O b) w w' → LeavesIn F n P fn tmps R [] .returning w') → LeavesInM F n P fn tmps R ds .returning w
  | [], _, _, _, _, h => h _ (Turn.refl _ _)
  | _ :: ds, _, w, ⟨D, h1, h2, h3, h4, h5⟩, hm, h => by
    have hn : ¬ O D := fun e => by have := hm.cells D _ h2 e h4; cases this
    have ht : Turn (fun b => ¬ O b) w (w.putObj D (.deferred none)) := Turn.putObj w hn _
    subst h1
    exact ⟨by simp, .inl ⟨D, _, rfl, run_takeDeferred h4, leaves_marks ds D _ (h5.same fun E _ e2 e3 => (World.putObj_heap_other (by omega)).trans e3) (hm.turn ht) fun w' t => h w' (ht.trans t)⟩⟩
end Go.Proofs.Ytckhkagkpldoiaa
