/- Several texts in one: Held Own OwnI OwnP. -/
import Derived.Test.YtdglhppcfdpcaaaRfX
import Derived.Shelf.Abstract
import Derived.Below
import Derived.Laws.Small
import Derived.Laws.Rows
import Derived.Test.YtdglhppcfdpcaaaRwX
import Derived.Lib.Hide
namespace Go.Proofs.Ytdglhppcfdpcaaa
open Go Go.RowKit Go.Shelf

/-- The values xs put into the slots of the operations. -/
def putsH (xs : Nat → Value) : List Oper → Nat → Act → Act
  | [], _, a => a
  | o :: os, k, a => putsH xs os (k + 1) (a.put o.dst (xs k))
def apartS (x y : Option Tmp) : Bool := match x, y with | some a, some b => a != b | _, _ => true
def slotsB : List Oper → Bool
  | [] => true
  | o :: os => (os.all fun p => apartS o.dst p.dst) && slotsB os
theorem apartS_spec {x y : Option Tmp} (h : apartS x y = true) : ∀ d, x = some d → y ≠ some d := by
  rintro d rfl rfl
  simp [apartS] at h
theorem put_put (a : Act) (x : Option Tmp) (v u : Value) : (a.put x v).put x u = a.put x u := by
  cases x with
  | none => rfl
  | some d => simp [Act.put]
theorem putsH_congr {xs ys : Nat → Value} : ∀ (l : List Oper) (k : Nat) (a : Act), (∀ j, k ≤ j → j < k + l.length → xs j = ys j) → putsH xs l k a = putsH ys l k a
  | [], _, _, _ => rfl
  | o :: os, k, a, h => by
    unfold putsH
    rw [h k (Nat.le_refl _) (by rw [List.length_cons]; omega)]
    exact putsH_congr os (k + 1) _ fun j h1 h2 => h j (by omega) (by rw [List.length_cons]; omega)
theorem putsH_put {xs : Nat → Value} (x : Option Tmp) (v : Value) : ∀ (l : List Oper) (k : Nat) (a : Act), (l.all fun p => apartS x p.dst) = true → (putsH xs l k a).put x v = putsH xs l k (a.put x v)
  | [], _, _, _ => rfl
  | o :: os, k, a, h => by
    simp only [List.all_cons, Bool.and_eq_true] at h
    unfold putsH
    rw [putsH_put x v os (k + 1) _ h.2, Act.put_comm a v (xs k) (apartS_spec h.1)]
theorem putsH_set {xs : Nat → Value} (v : Value) : ∀ (l : List Oper) (k : Nat) (a : Act) (i : Nat) (o : Oper), slotsB l = true → l[i]? = some o →
    (putsH xs l k a).put o.dst v = putsH (fun j => if j = k + i then v else xs j) l k a
  | [], _, _, i, _, _, h => by simp at h
  | p :: os, k, a, 0, o, hs, h => by
    simp only [slotsB, Bool.and_eq_true] at hs
    simp only [List.getElem?_cons_zero, Option.some.injEq] at h
    subst h
    unfold putsH
    rw [putsH_put _ _ _ _ _ hs.1, put_put, if_pos (show k = k + 0 from rfl)]
    exact putsH_congr os (k + 1) _ fun j h1 _ => by rw [if_neg (by omega)]
  | p :: os, k, a, i + 1, o, hs, h => by
    simp only [slotsB, Bool.and_eq_true] at hs
    rw [List.getElem?_cons_succ] at h
    unfold putsH
    rw [putsH_set v os (k + 1) _ i o hs.2 h, if_neg (by omega)]
    exact putsH_congr os (k + 1) _ fun j _ _ => by rw [show k + 1 + i = k + (i + 1) by omega]
/-- What lies in the slots as the region begins. -/
def firstX (l : List Oper) (a : Act) (j : Nat) : Value := match (l[j]?).bind (·.dst) with | some d => a.tmps.getD d undef | none => undef
theorem put_same (a : Act) (x : Option Tmp) (v : Value) (h : ∀ d, x = some d → a.tmps.getD d undef = v) : a.put x v = a := by
  cases x with
  | none => rfl
  | some d =>
    have := h d rfl
    subst this
    have e : a.tmps.setIfInBounds d (a.tmps.getD d undef) = a.tmps := by
      rcases Nat.lt_or_ge d a.tmps.size with h | h
      · apply Array.ext_getElem?
        intro i
        rw [Array.getElem?_setIfInBounds]
        split
        · rename_i e; subst e
          simp [h]
        · rfl
      · exact Array.setIfInBounds_eq_of_size_le h
    show ({ a with tmps := a.tmps.setIfInBounds d (a.tmps.getD d undef) } : Act) = a
    rw [e]
theorem putsH_first {xs : Nat → Value} : ∀ (l : List Oper) (k : Nat) (a : Act), (∀ i o d, l[i]? = some o → o.dst = some d → xs (k + i) = a.tmps.getD d undef) → putsH xs l k a = a
  | [], _, _, _ => rfl
  | o :: os, k, a, h => by
    unfold putsH
    rw [put_same a o.dst (xs k) (fun d hd => (h 0 o d rfl hd).symm)]
    exact putsH_first os (k + 1) a fun i p d hp hd => by rw [← h (i + 1) p d (by simpa using hp) hd]; congr 1; omega

/-- Each dependency is waited for, or is one of what is waited for. -/
def depsB (md : Region.Mode) (ops : Array Oper) (N : Nat) (D : Nat → List Nat) : Bool :=
  (List.range N).all fun i => (D i).all fun j => decide (j < N) && ((ops[i]?).map fun o => o.after.any fun e => Region.binds md e && (e.on == j || (decide (e.on < N) && (D e.on).contains j))).getD false
def cntH (listed : Array Bool) : Nat → Nat
  | 0 => 0
  | k + 1 => cntH listed k + if listed.getD k true = true then 0 else 1
theorem cntH_ge {listed : Array Bool} {i : Nat} : ∀ k, k ≤ i → cntH (listed.setIfInBounds i true) k = cntH listed k
  | 0, _ => rfl
  | k + 1, h => by
    unfold cntH
    rw [cntH_ge k (by omega), getD_set_ne true (by omega)]
theorem cntH_set {listed : Array Bool} {i : Nat} (hi : listed.getD i true = false) : ∀ k, i < k → cntH (listed.setIfInBounds i true) k + 1 = cntH listed k
  | 0, h => by omega
  | k + 1, h => by
    unfold cntH
    by_cases e : i = k
    · subst e
      have hs : (listed.setIfInBounds i true).getD i true = true := by
        rcases Nat.lt_or_ge i listed.size with h' | h'
        · simp [h']
        · simp [Array.getElem?_eq_none h'] at hi
      rw [cntH_ge i (Nat.le_refl _), hi, hs]
      simp
    · rw [getD_set_ne true e, ← cntH_set hi k (by omega)]
      omega
theorem cntH_zero {listed : Array Bool} : ∀ k, cntH listed k = 0 → ∀ i, i < k → listed.getD i true = true
  | 0, _, _, hi => by omega
  | k + 1, h, i, hi => by
    unfold cntH at h
    by_cases e : i = k
    · subst e
      by_cases hl : listed.getD i true = true
      · exact hl
      · rw [if_neg hl] at h; omega
    · exact cntH_zero k (by omega) i (by omega)

section
variable {F : Fence} {n : Nat} {P : Program}

/-- One operation, at any world that the region may have reached. -/
structure HeldOp (F : Fence) (n : Nat) (P : Program) (L : List Oper) (N : Nat) (Q : Exit → Act → World → Prop) (V : Nat → Value → World → Prop) (R : World → World → Prop) (D : Nat → List Nat) (a : Act) (w : World) (k : Nat) (o : Oper) : Prop where
  out : ∀ (xs : Nat → Value) (w' : World), (∀ j ∈ D k, V j (xs j) w') → R w w' → ∀ K : Value → World → Prop, (∀ v w'', V k v w'' → R w' w'' → K v w'') →
    if Region.wanted o (yielded L.toArray (putsH xs (L.take N) 0 a).tmps) = true then o.wpIn F n P (putsH xs (L.take N) 0 a) w' (fun a'' w'' => ∃ v, a'' = (putsH xs (L.take N) 0 a).put o.dst v ∧ K v w'') Q
    else (∀ f, o.about P w' (putsH xs (L.take N) 0 a).eval = some f → F.fn f) ∧ K undef w'
def HeldOps (F : Fence) (n : Nat) (P : Program) (L : List Oper) (N : Nat) (Q : Exit → Act → World → Prop) (V : Nat → Value → World → Prop) (R : World → World → Prop) (D : Nat → List Nat) (a : Act) (w : World) : Nat → List Oper → Prop
  | _, [] => True
  | k, o :: os => HeldOp F n P L N Q V R D a w k o ∧ HeldOps F n P L N Q V R D a w (k + 1) os
theorem HeldOps.get {L : List Oper} {N : Nat} {Q : Exit → Act → World → Prop} {V : Nat → Value → World → Prop} {R : World → World → Prop} {D : Nat → List Nat} {a : Act} {w : World} : ∀ (l : List Oper) (k : Nat), HeldOps F n P L N Q V R D a w k l → ∀ i o, l[i]? = some o → HeldOp F n P L N Q V R D a w (k + i) o
  | [], _, _, i, _, h => by simp at h
  | p :: os, k, h, 0, o, ho => by
    simp only [List.getElem?_cons_zero, Option.some.injEq] at ho
    subst ho
    exact h.1
  | p :: os, k, h, i + 1, o, ho => by
    rw [List.getElem?_cons_succ] at ho
    have := HeldOps.get os (k + 1) h.2 i o ho
    rwa [show k + 1 + i = k + (i + 1) by omega] at this

/-- A fence that bars nothing. -/
def Fence.free (F : Fence) : Prop := F.depth = none ∧ ∀ f, F.fn f
theorem free_wide : Fence.free Fence.wide := ⟨rfl, fun _ => trivial⟩
theorem free_round (l : Nat) : Fence.free (Fence.wide.inRound l) := ⟨rfl, fun _ => trivial⟩

section
variable {L : List Oper} {N : Nat} {Q : Exit → Act → World → Prop} {V : Nat → Value → World → Prop} {R : World → World → Prop} {D : Nat → List Nat} {a : Act} {w : World} {k : Nat} {o : Oper}
/-- The guard is held. -/
structure HeldGd (L : List Oper) (N : Nat) (V : Nat → Value → World → Prop) (R : World → World → Prop) (D : Nat → List Nat) (a : Act) (w : World) (k : Nat) (o : Oper) : Prop where
  out : ∀ (xs : Nat → Value) (w' : World), (∀ j ∈ D k, V j (xs j) w') → R w w' → Region.wanted o (yielded L.toArray (putsH xs (L.take N) 0 a).tmps) = true
end
end
/-- Which operation writes a slot. -/
def whoPuts (t : Nat) : List Oper → Nat → Option Nat
  | [], _ => none
  | o :: os, k => match whoPuts t os (k + 1) with
    | some i => some i
    | none => match o.dst with
      | some d => if d == t then some k else none
      | none => none
theorem put_eval (a : Act) (x : Option Tmp) (v : Value) (t : Nat) : (a.put x v).eval (.tmp t) = if x = some t then (if t < a.tmps.size then v else undef) else a.eval (.tmp t) := by
  cases x with
  | none => rfl
  | some d =>
    by_cases e : d = t
    · subst e
      rw [if_pos rfl]
      by_cases h : d < a.tmps.size
      · simp [Act.put, Act.eval, h]
      · rw [if_neg h]
        simp [Act.put, Act.eval]
        exact fun h' => absurd h' h
    · rw [if_neg (fun h => e (Option.some.inj h))]
      simp [Act.put, Act.eval, Array.getElem?_setIfInBounds_ne e]
theorem put_size (a : Act) (x : Option Tmp) (v : Value) : (a.put x v).tmps.size = a.tmps.size := by cases x <;> simp [Act.put]
theorem putsH_eval {xs : Nat → Value} (t : Nat) : ∀ (l : List Oper) (k : Nat) (a : Act), (putsH xs l k a).eval (.tmp t) = match whoPuts t l k with
    | some i => if t < a.tmps.size then xs i else undef
    | none => a.eval (.tmp t)
  | [], _, _ => rfl
  | o :: os, k, a => by
    unfold putsH whoPuts
    rw [putsH_eval t os (k + 1) _, put_size]
    cases h : whoPuts t os (k + 1) with
    | some i => rfl
    | none =>
      simp only
      rw [put_eval]
      cases hd : o.dst with
      | none => rfl
      | some d =>
        by_cases e : d = t
        · subst e; simp
        · rw [if_neg (fun h => e (Option.some.inj h))]
          have : (d == t) = false := by simpa using e
          simp [this]
theorem putsH_tmp {xs : Nat → Value} {l : List Oper} {a : Act} {t i : Nat} (h : whoPuts t l 0 = some i) (ht : Nat.blt t a.tmps.size = true) : (putsH xs l 0 a).eval (.tmp t) = xs i := by
  rw [putsH_eval, h]
  exact if_pos (Nat.blt_eq ▸ ht)
/-- A guard by what was known of the test's value. -/
theorem wanted_of {L : List Oper} {N : Nat} {a : Act} {xs : Nat → Value} {o : Oper} {j d : Nat} {b b' : Bool} (hg : o.guard = some (j, b)) (hd : (L.toArray[j]?).bind (·.dst) = some d) (hw : whoPuts d (L.take N) 0 = some j) (hs : Nat.blt d a.tmps.size = true) (hv : xs j = .bool b') :
    Region.wanted o (yielded L.toArray (putsH xs (L.take N) 0 a).tmps) = (b' == b) := by
  have he := putsH_tmp (xs := xs) (a := a) hw hs
  rw [hv] at he
  have hsz : d < (putsH xs (L.take N) 0 a).tmps.size := by
    rcases Nat.lt_or_ge d (putsH xs (L.take N) 0 a).tmps.size with h | h
    · exact h
    · exfalso
      have he' : (putsH xs (L.take N) 0 a).tmps.getD d undef = .bool b' := he
      rw [Array.getD_eq_getD_getElem?, Array.getElem?_eq_none h] at he'
      cases he'
  have he' : (putsH xs (L.take N) 0 a).tmps.getD d undef = .bool b' := he
  rw [Array.getD_eq_getD_getElem?, Array.getElem?_eq_getElem hsz] at he'
  have he2 : (putsH xs (L.take N) 0 a).tmps[d] = .bool b' := he'
  unfold Region.wanted yielded
  rw [hg]
  simp only [hd, Option.bind_some, Array.getElem?_eq_getElem hsz, he2]
  cases b <;> cases b' <;> rfl
theorem wanted_undef {L : List Oper} {N : Nat} {a : Act} {xs : Nat → Value} {o : Oper} {j d : Nat} {b : Bool} (hg : o.guard = some (j, b)) (hd : (L.toArray[j]?).bind (·.dst) = some d) (hw : whoPuts d (L.take N) 0 = some j) (hs : Nat.blt d a.tmps.size = true) (hv : xs j = undef) :
    Region.wanted o (yielded L.toArray (putsH xs (L.take N) 0 a).tmps) = false := by
  have he := putsH_tmp (xs := xs) (a := a) hw hs
  rw [hv] at he
  have he' : (putsH xs (L.take N) 0 a).tmps.getD d undef = undef := he
  unfold Region.wanted yielded
  rw [hg]
  simp only [hd, Option.bind_some]
  rcases Nat.lt_or_ge d (putsH xs (L.take N) 0 a).tmps.size with h | h
  · rw [Array.getD_eq_getD_getElem?, Array.getElem?_eq_getElem h] at he'
    have he2 : (putsH xs (L.take N) 0 a).tmps[d] = undef := he'
    rw [Array.getElem?_eq_getElem h, he2]
    rfl
  · rw [Array.getElem?_eq_none h]
    rfl
/-- What is known of a value that is there only under a condition. -/
def cdV (C : Prop) (p : Value → World → Prop) (v : Value) (w : World) : Prop := (C ∧ p v w) ∨ (¬ C ∧ v = undef)
theorem cdV.get {C : Prop} {p : Value → World → Prop} {v : Value} {w : World} (h : cdV C p v w) (hc : C) : p v w := h.elim (fun h => h.2) (fun h => absurd hc h.1)
section
variable {P : Program} {ρ : Operand → Value} {o : Oper} {w w' : World}
theorem run_pickO {c x y : Operand} {b : Bool} {v : Value} (ho : o.op = .pick c x y) (hc : ρ c = .bool b) (hv : (if b then ρ x else ρ y) = v) : (execOp ρ o).run P w = .ok (.value v) w := by
  unfold execOp
  subst hv
  cases b <;> simp [ho, hc, asBool]
end
section
variable {P : Program} {T : TypeId} {x y : Operand} {k : IntKind} {a b : Int} {w : World}
end
/-- A part of a block, loaded. -/
theorem run_loadVar_sub {P : Program} (w : World) (g off : Nat) (t ty : TypeId) (cs : Array Value) (l : List Value) {d : TypeDesc} (hg : w.heap[g]? = some (.cells cs t (0, 0))) (hl : (cs.toList.drop off).take l.length = l)
    (hu : P.underlying ty = some d) (hd : (match d with | .struct _ | .array _ _ => true | _ => false) = true) (hi : (P.info? ty).map (·.size) = some l.length) : (loadVar ty ⟨g, off, none⟩).run P w = .ok (.agg l.toArray) w := by
  have hc : (loadCells ⟨g, off, none⟩ l.length).run P w = .ok l.toArray w :=
    run_loadCells_list (P := P) w ⟨g, off, none⟩ l (fun j v hv => by
      have hadd : (⟨g, off, none⟩ : Addr).add j = ⟨g, off + j, none⟩ := by unfold Addr.add; split <;> simp_all
      rw [hadd, cell_of_row w g (off + j) cs t (0, 0) hg]
      have hj : j < l.length := (List.getElem?_eq_some_iff.1 hv).1
      have h2 := congrArg (fun z => z[j]?) hl
      simp only [List.getElem?_take_of_lt hj, List.getElem?_drop] at h2
      rw [← Array.getElem?_toList, h2]
      exact hv)
  cases hq : P.info? ty with
  | none => simp [hq] at hi
  | some i =>
    have hs : i.size = l.length := by simpa [hq] using hi
    have hagg : (isAgg ty).run P w = .ok true w := by
      unfold isAgg
      rw [Sem.run_bind, run_underlying hu w]
      cases d <;> simp_all
    simp [loadVar, Sem.run_bind, hagg, sizeOf, typeInfo, hq, hs, hc]
/-- All blocks kept: the relation of calls that make memory. -/
def BelowR (W W' : World) : Prop := Below W.heap.size W W'
theorem BelowR.refl (W : World) : BelowR W W := Below.refl _ W
theorem BelowR.trans (x y z : World) (h : BelowR x y) (k : BelowR y z) : BelowR x z := Below.trans h (Below.mono k (Below.size h))
theorem BelowR.drew (W : World) : BelowR W W.drew := ⟨rfl, rfl, rfl, Nat.le_refl _, fun _ _ => rfl⟩
/-- What is known of a value, and that it stays. -/
inductive StV (R : World → World → Prop) : List (Value → World → Prop) → Prop
  | nil : StV R []
  | const {l : List (Value → World → Prop)} (c : Value) (h : StV R l) : StV R ((fun v _ => v = c) :: l)
  | cons {l : List (Value → World → Prop)} {p : Value → World → Prop} (hp : ∀ v x y, p v x → R x y → p v y) (h : StV R l) : StV R (p :: l)
end Go.Proofs.Ytdglhppcfdpcaaa
namespace Go.Proofs.Ytdglhppcfdpcaaa
open Go Go.RowKit

abbrev Objs := List (Nat × Obj)
/-- The objects L lie as told, each a block from B on; beside them the world base is as it was. -/
structure Own (B : Nat) (base : World) (L : Objs) (W : World) : Prop where
  obj : ∀ x ∈ L, W.heap[x.1]? = some x.2
  nd : L.Pairwise (fun x y => x.1 ≠ y.1)
  lo : ∀ x ∈ L, B ≤ x.1
  os : W.os = base.os
  tape : W.tape = base.tape
  output : W.output = base.output
  size : base.heap.size ≤ W.heap.size
  far : ∀ b, b < base.heap.size → (∀ x ∈ L, x.1 ≠ b) → W.heap[b]? = base.heap[b]?

section
variable {B : Nat} {base W W' : World} {L L' : Objs}
theorem Own.start (B : Nat) (W : World) : Own B W [] W :=
  ⟨fun _ h => by simp at h, List.Pairwise.nil, fun _ h => by simp at h, rfl, rfl, rfl, Nat.le_refl _, fun _ _ _ => rfl⟩
theorem Own.lt (h : Own B base L W) {x : Nat × Obj} (hx : x ∈ L) : x.1 < W.heap.size := (Array.getElem?_eq_some_iff.1 (h.obj x hx)).1
theorem Own.get (h : Own B base L W) {k : Nat} {x : Nat × Obj} (hk : L[k]? = some x) : W.heap[x.1]? = some x.2 := h.obj x (List.mem_of_getElem? hk)
theorem Own.blk (h : Own B base L W) {k g : Nat} {t : TypeId} {cs : Array Value} (hk : L[k]? = some (g, .cells cs t (0, 0))) : Blk W g t cs := h.get hk
theorem Own.mem (h : Own B base L W) {g : Nat} {t : TypeId} {cs : Array Value} (hk : (g, Obj.cells cs t (0, 0)) ∈ L) : Blk W g t cs := h.obj _ hk
theorem Own.below (h : Own B base L W) (hB : B ≤ base.heap.size) : Below B base W :=
  ⟨h.os, h.tape, h.output, h.size, fun b hb => h.far b (by omega) (fun x hx e => by have := h.lo x hx; omega)⟩
theorem Own.trans (h : Own B base L W) (k : Own B W L' W') (hs : ∀ x ∈ L, ∃ y ∈ L', y.1 = x.1) : Own B base L' W' :=
  ⟨k.obj, k.nd, k.lo, k.os.trans h.os, k.tape.trans h.tape, k.output.trans h.output, Nat.le_trans h.size k.size, fun b hb hn =>
    (k.far b (Nat.lt_of_lt_of_le hb h.size) hn).trans (h.far b hb (fun x hx e => by obtain ⟨y, hy, he⟩ := hs x hx; exact hn y hy (he.trans e)))⟩
/-- A step that keeps all blocks. -/
theorem Own.step (h : Own B base L W) (hb : Below W.heap.size W W') : Own B base L W' :=
  ⟨fun x hx => (hb.block _ (h.lt hx)).trans (h.obj x hx), h.nd, h.lo, hb.os.trans h.os, hb.tape.trans h.tape, hb.output.trans h.output, Nat.le_trans h.size hb.size,
    fun b h1 h2 => (hb.block b (Nat.lt_of_lt_of_le h1 h.size)).trans (h.far b h1 h2)⟩
theorem Own.drew (h : Own B base L W) : Own B base L W.drew := h.step ⟨rfl, rfl, rfl, Nat.le_refl _, fun _ _ => rfl⟩
/-- An object that has come since. -/
theorem Own.add (h : Own B base L W) (hb : Below W.heap.size W W') {g : Nat} {o : Obj} (hB : B ≤ W.heap.size) (hg : W.heap.size ≤ g) (ho : W'.heap[g]? = some o) : Own B base (L ++ [(g, o)]) W' := by
  have h2 := h.step hb
  refine ⟨?_, ?_, ?_, h2.os, h2.tape, h2.output, h2.size, fun b h1 hn => h2.far b h1 fun x hx => hn x (List.mem_append_left _ hx)⟩
  · intro x hx
    rcases List.mem_append.1 hx with hx | hx
    · exact h2.obj x hx
    · obtain rfl := List.mem_singleton.1 hx
      exact ho
  · refine List.pairwise_append.2 ⟨h2.nd, List.pairwise_singleton _ _, fun x hx y hy => ?_⟩
    obtain rfl := List.mem_singleton.1 hy
    have := h.lt hx
    show x.1 ≠ g
    omega
  · intro x hx
    rcases List.mem_append.1 hx with hx | hx
    · exact h2.lo x hx
    · obtain rfl := List.mem_singleton.1 hx
      exact Nat.le_trans hB hg
theorem Own.alloc (h : Own B base L W) (hB : B ≤ W.heap.size) (o : Obj) : Own B base (L ++ [(W.heap.size, o)]) (W.alloc o) :=
  h.add ((Below.refl _ W).alloc (Nat.le_refl _) o) hB (Nat.le_refl _) (World.alloc_heap_new W o)
/-- One object is another one now. -/
theorem Own.put (h : Own B base L W) {k g : Nat} {o o' : Obj} (hk : L[k]? = some (g, o)) (hos : W'.os = W.os) (htp : W'.tape = W.tape) (hout : W'.output = W.output) (hsz : W'.heap.size = W.heap.size)
    (hg : W'.heap[g]? = some o') (hf : ∀ b, b ≠ g → W'.heap[b]? = W.heap[b]?) : Own B base (L.set k (g, o')) W' := by
  have hkl : k < L.length := (List.getElem?_eq_some_iff.1 hk).1
  have hke : L[k] = (g, o) := (List.getElem?_eq_some_iff.1 hk).2
  have hne : ∀ j (hj : j < L.length), j ≠ k → L[j].1 ≠ g := fun j hj hjk => by
    have hp := List.pairwise_iff_getElem.1 h.nd
    rcases Nat.lt_or_gt_of_ne hjk with h1 | h1
    · have := hp j k hj hkl h1; rwa [hke] at this
    · have := hp k j hkl hj h1; rw [hke] at this; exact Ne.symm this
  have hmem : ∀ x ∈ L.set k (g, o'), x = (g, o') ∨ (x ∈ L ∧ x.1 ≠ g) := fun x hx => by
    obtain ⟨j, hj, rfl⟩ := List.getElem_of_mem hx
    rw [List.length_set] at hj
    rw [List.getElem_set]
    split
    · exact .inl rfl
    · rename_i e
      exact .inr ⟨List.getElem_mem hj, hne j hj (Ne.symm e)⟩
  refine ⟨?_, ?_, ?_, hos.trans h.os, htp.trans h.tape, hout.trans h.output, by rw [hsz]; exact h.size, ?_⟩
  · intro x hx
    rcases hmem x hx with rfl | ⟨h1, h2⟩
    · exact hg
    · exact (hf _ h2).trans (h.obj x h1)
  · rw [List.pairwise_iff_getElem]
    intro i j hi hj hij
    have hp := List.pairwise_iff_getElem.1 h.nd
    rw [List.length_set] at hi hj
    have e : ∀ m (hm : m < (L.set k (g, o')).length), ((L.set k (g, o'))[m]).1 = (L[m]'(by rw [List.length_set] at hm; exact hm)).1 := fun m hm => by
      rw [List.getElem_set]
      split
      · rename_i e; subst e; rw [hke]
      · rfl
    rw [e, e]
    exact hp i j hi hj hij
  · intro x hx
    rcases hmem x hx with rfl | ⟨h1, _⟩
    · exact h.lo (g, o) (List.mem_of_getElem? hk)
    · exact h.lo x h1
  · intro b hb hn
    have hbg : b ≠ g := fun e => by
      subst e
      exact hn (b, o') (List.mem_of_getElem? (by rw [List.getElem?_set_self hkl])) rfl
    rw [hf b hbg]
    refine h.far b hb fun x hx e => ?_
    obtain ⟨j, hj, rfl⟩ := List.getElem_of_mem hx
    by_cases hjk : j = k
    · subst hjk; rw [hke] at e; exact hbg e.symm
    · refine hn L[j] (List.mem_of_getElem? (i := j) ?_) e
      rw [List.getElem?_set_ne (Ne.symm hjk), List.getElem?_eq_getElem hj]
theorem Own.setc (h : Own B base L W) {k g i : Nat} {t : TypeId} {cs : Array Value} (hk : L[k]? = some (g, .cells cs t (0, 0))) (v : Value) : Own B base (L.set k (g, .cells (cs.setIfInBounds i v) t (0, 0))) (W.setCell ⟨g, i, none⟩ v) :=
  h.put hk rfl rfl rfl (by simp [World.setCell]) (heap_setCell_same W g i cs t v (h.get hk)) (fun b hb => heap_setCell_other W ⟨g, i, none⟩ b v hb)
theorem Own.setRow (h : Own B base L W) {k g : Nat} {t : TypeId} {cs : Array Value} (hk : L[k]? = some (g, .cells cs t (0, 0))) (cs' : Array Value) : Own B base (L.set k (g, .cells cs' t (0, 0))) (W.setRow g cs') :=
  h.put hk rfl rfl rfl (by simp) (setRow_heap W g cs cs' t (0, 0) (h.get hk)) (fun b hb => setRow_other W g b cs' hb)
theorem Own.putObj (h : Own B base L W) {k g : Nat} {o : Obj} (hk : L[k]? = some (g, o)) (o' : Obj) : Own B base (L.set k (g, o')) (W.putObj g o') :=
  h.put hk rfl rfl rfl (by simp [World.putObj]) (World.putObj_heap_same (h.lt (List.mem_of_getElem? hk))) (fun b hb => World.putObj_heap_other hb)
/-- The caller's blocks stand while the iterator turns others. -/
theorem Own.turn (h : Own B base L W) {O : Nat → Prop} (t : Turn (fun b => ¬ O b) W W') (hO : ∀ x ∈ L, O x.1) (hb : ∀ b, b < base.heap.size → O b) : Own B base L W' :=
  ⟨fun x hx => t.heap (fun e => e (hO x hx)) (h.obj x hx), h.nd, h.lo, t.os.trans h.os, t.tape.trans h.tape, t.output.trans h.output, Nat.le_trans h.size t.size,
    fun b h1 h2 => (t.same b (Nat.lt_of_lt_of_le h1 h.size) (fun e => e (hb b h1))).trans (h.far b h1 h2)⟩
/-- What a round of a range over a function has done: own blocks, and new ones. -/
theorem Own.grow (h : Own B W L' W') {m : Nat} {K : Nat → Prop} (hm : m ≤ W.heap.size) (hL : ∀ x ∈ L', x.1 < m ∨ W.heap.size ≤ x.1) (hK : ∀ b, K b → b < m → W'.heap[b]? = W.heap[b]?)
    (hC : ∀ x ∈ L', x.1 < m → x.2.isCells = false → ∃ o', W.heap[x.1]? = some o' ∧ o'.isCells = false) : Grow K (fun b => b < m) (fun b => b < m) W W' :=
  ⟨h.size, fun _ _ h => h, fun b hb => by have := h.size; omega, fun b o hb ho hc => by
      by_cases hx : ∃ x ∈ L', x.1 = b
      · obtain ⟨x, hx, rfl⟩ := hx
        have ho2 := (h.obj x hx).symm.trans ho
        cases ho2
        exact hC x hx hb hc
      · exact ⟨o, by rw [← h.far b (by omega) (fun x h1 h2 => hx ⟨x, h1, h2⟩)]; exact ho, hc⟩,
    fun b hb hk => by
      rcases hk with hk | hk
      · refine h.far b hb fun x hx e => ?_
        have := hL x hx
        omega
      · by_cases hbm : b < m
        · exact hK b hk hbm
        · refine h.far b hb fun x hx e => ?_
          have := hL x hx
          omega⟩
end

class FreeF (F : Fence) : Prop where
  out : Fence.free F
instance : FreeF Fence.wide := ⟨free_wide⟩
instance (l : Nat) : FreeF (Fence.wide.inRound l) := ⟨free_round l⟩

section
variable {F : Fence} {n : Nat} {P : Program} {ops : Array Oper} {Q : Exit → Act → World → Prop} {a : Act} {W W' : World} {rest : List Oper} {o : Oper} {B G : Nat} {base : World} {L : Objs}
theorem run_loadVar_cell {w : World} {T : TypeId} {p : Addr} {v : Value} (hna : (isAgg T).run P w = .ok false w) (hc : w.cell? p = some v) : (loadVar T p).run P w = .ok v w := by
  unfold loadVar
  rw [Sem.run_bind, hna, Result.andThen_ok]
  simp [hc]
end
end Go.Proofs.Ytdglhppcfdpcaaa
namespace Go.Proofs.Ytdglhppcfdpcaaa
open Go Go.RowKit Go.Shelf
set_option linter.unusedVariables false

section
variable {B : Nat} {base W W' : World} {L L' : Objs}
/-- Fewer objects, where none is older than the base. -/
theorem Own.sub (h : Own B base L W) (hB : base.heap.size ≤ B) (hs : ∀ x ∈ L', x ∈ L) (hn : L'.Pairwise (fun x y => x.1 ≠ y.1)) : Own B base L' W :=
  ⟨fun x hx => h.obj x (hs x hx), hn, fun x hx => h.lo x (hs x hx), h.os, h.tape, h.output, h.size, fun b hb _ => h.far b hb fun x hx e => by have := h.lo x hx; omega⟩
theorem Own.left {L1 L2 : Objs} (h : Own B base (L1 ++ L2) W) (hB : base.heap.size ≤ B) : Own B base L1 W :=
  h.sub hB (fun x hx => List.mem_append_left _ hx) (List.pairwise_append.1 h.nd).1
theorem Own.done (h : Own B base L W) (hB : Hid (base.heap.size = B)) : Below base.heap.size base W := by
  have := hB.out
  subst this
  exact h.below (Nat.le_refl _)
/-- In another order. -/
theorem Own.perm (h : Own B base L W) (hp : L.Perm L') : Own B base L' W :=
  ⟨fun x hx => h.obj x (hp.mem_iff.2 hx), hp.pairwise h.nd (fun h => Ne.symm h), fun x hx => h.lo x (hp.mem_iff.2 hx), h.os, h.tape, h.output, h.size, fun b hb hn => h.far b hb fun x hx => hn x (hp.mem_iff.1 hx)⟩
theorem Own.sublist (h : Own B base L W) (hB : base.heap.size ≤ B) (hs : L'.Sublist L) : Own B base L' W := h.sub hB (fun _ hx => hs.subset hx) (h.nd.sublist hs)
/-- A loop's mark goes to the marks; what it was called with goes. -/
theorem Own.mark {A M E : Objs} {m : Nat × Obj} (h : Own B base (A ++ M ++ E ++ [m]) W) (hB : Hid (base.heap.size = B)) : Own B base (A ++ m :: M) W := by
  have h1 : Own B base (A ++ M ++ [m]) W := h.sublist (Nat.le_of_eq hB.out) (List.Sublist.append (List.sublist_append_left _ _) (List.Sublist.refl _))
  refine h1.perm ?_
  rw [List.append_assoc]
  exact List.Perm.append_left A (List.perm_append_comm)
end

abbrev markD (D : Nat) : Deferred := { target := .collected D, args := #[] }
abbrev markO (D : Nat) : Nat × Obj := (D, .deferred (some []))

/-- What a round leaves behind. -/
def OwnNext (B : Nat) (K : Nat → Prop) (W1 : World) (Ls : Objs) (Rel : Objs → Prop) (W' : World) : Prop :=
  ∃ Lend Ls', Own B W1 Lend W' ∧ (∀ y ∈ Ls', y ∈ Lend) ∧ Ls'.Pairwise (fun x y => x.1 ≠ y.1) ∧ Rel Ls' ∧ (∀ y ∈ Lend, (∃ x ∈ Ls, x.1 = y.1) ∨ W1.heap.size ≤ y.1) ∧ (∀ x ∈ Ls, ∃ y ∈ Lend, y.1 = x.1) ∧
    (∀ b, K b → b < B ∨ ∃ x, x ∈ Ls ∧ x ∈ Lend ∧ x.1 = b) ∧ (∀ y ∈ Lend, y.2.isCells = true ∨ ∃ x ∈ Ls, x.1 = y.1 ∧ x.2.isCells = false)
/-- The same blocks, and new ones. -/
theorem OwnNext.mkB {B : Nat} {K : Nat → Prop} {W1 : World} {Ls L1 E : Objs} {Rel : Objs → Prop} {W' : World} (h : Own B W1 (L1 ++ E) W') (hE : ∀ x ∈ E, W1.heap.size ≤ x.1) (hs : L1.map (·.1) = Ls.map (·.1)) (hr : Rel L1)
    (hK : ∀ b, K b → b < B ∨ ∃ x, x ∈ Ls ∧ x ∈ L1 ∧ x.1 = b) (hc : ∀ y ∈ L1 ++ E, y.2.isCells = true ∨ ∃ x ∈ Ls, x.1 = y.1 ∧ x.2.isCells = false) : OwnNext B K W1 Ls Rel W' := by
  have m1 : ∀ {A C : Objs}, A.map (·.1) = C.map (·.1) → ∀ x ∈ A, ∃ y ∈ C, y.1 = x.1 := fun {A C} e x hx => by
    have : x.1 ∈ C.map (·.1) := by rw [← e]; exact List.mem_map_of_mem hx
    obtain ⟨y, hy, e⟩ := List.mem_map.1 this
    exact ⟨y, hy, e⟩
  refine ⟨L1 ++ E, L1, h, fun y hy => List.mem_append_left _ hy, (List.pairwise_append.1 h.nd).1, hr, fun y hy => ?_, fun x hx => ?_, fun b hb => ?_, hc⟩
  · rcases List.mem_append.1 hy with hy | hy
    · exact .inl (m1 hs y hy)
    · exact .inr (hE y hy)
  · obtain ⟨y, hy, e⟩ := m1 hs.symm x hx
    exact ⟨y, List.mem_append_left _ hy, e⟩
  · rcases hK b hb with h | ⟨x, h1, h2, h3⟩
    · exact .inl h
    · exact .inr ⟨x, h1, List.mem_append_left _ h2, h3⟩
theorem OwnNext.mk' {B : Nat} {K : Nat → Prop} {W1 : World} {Ls L1 E : Objs} {Rel : Objs → Prop} {W' : World} (h : Own B W1 (L1 ++ E) W') (hE : ∀ x ∈ E, W1.heap.size ≤ x.1) (hs : L1.map (·.1) = Ls.map (·.1)) (hr : Rel L1)
    (hK : ∀ b, K b → ∃ x, x ∈ Ls ∧ x ∈ L1 ∧ x.1 = b) (hc : ∀ y ∈ L1 ++ E, y.2.isCells = true ∨ ∃ x ∈ Ls, x.1 = y.1 ∧ x.2.isCells = false) : OwnNext B K W1 Ls Rel W' :=
  OwnNext.mkB h hE hs hr (fun b hb => .inr (hK b hb)) hc
/-- The set of the caller's blocks. -/
def ownSet (m : Nat) (Ls : Objs) (b : Nat) : Prop := b < m ∨ ∃ x ∈ Ls, x.1 = b
theorem OwnNext.grow {B m : Nat} {K : Nat → Prop} {w W1 W' : World} {Ls : Objs} {Rel : Objs → Prop} (h : OwnNext B K W1 Ls Rel W') (hw : w.heap.size = B) (hO : Own B w Ls W1) (hm : m ≤ W1.heap.size) :
    ∃ Ls', Rel Ls' ∧ Own B w Ls' W' ∧ Grow K (ownSet m Ls) (ownSet m Ls') W1 W' := by
  obtain ⟨Lend, Ls', h1, h2, h3, h4, h5, h6, h7, h8⟩ := h
  refine ⟨Ls', h4, ((hO.trans h1 h6).sub (by omega) h2 h3), ⟨h1.size, ?_, ?_, ?_, ?_⟩⟩
  · rintro b hb (h | ⟨y, hy, rfl⟩)
    · exact .inl h
    · rcases h5 y (h2 y hy) with ⟨x, hx, e⟩ | h
      · exact .inr ⟨x, hx, e⟩
      · omega
  · rintro b (h | ⟨y, hy, rfl⟩)
    · have := h1.size; omega
    · exact h1.lt (h2 y hy)
  · rintro b o hb ho hc
    by_cases hy : ∃ y ∈ Lend, y.1 = b
    · obtain ⟨y, hy, rfl⟩ := hy
      have h9 := (h1.obj y hy).symm.trans ho
      cases h9
      rcases h8 y hy with h | ⟨x, hx, e1, e2⟩
      · rw [h] at hc; cases hc
      · exact ⟨x.2, by rw [← e1]; exact hO.obj x hx, e2⟩
    · have hbm : b < W1.heap.size := by
        rcases hb with h | ⟨y, hy2, e⟩
        · omega
        · exact (hy ⟨y, h2 y hy2, e⟩).elim
      exact ⟨o, (h1.far b hbm fun y hy2 e => hy ⟨y, hy2, e⟩).symm.trans ho, hc⟩
  · intro b hb hk
    rcases hk with hk | hk
    · refine h1.far b hb fun y hy e => ?_
      rcases h5 y hy with ⟨x, hx, e2⟩ | h
      · exact hk (.inr ⟨x, hx, e2.trans e⟩)
      · omega
    · rcases h7 b hk with hlo | ⟨x, hx1, hx2, rfl⟩
      · exact h1.far b hb fun y hy e => by have := h1.lo y hy; omega
      · exact (h1.obj x hx2).trans (hO.obj x hx1).symm

/-- What stands between the rounds. -/
def ownInv (B m : Nat) (w : World) (Rel : Nat → Objs → Prop) (i : Nat) (O : Nat → Prop) (W : World) : Prop :=
  ∃ Ls, Rel i Ls ∧ O = ownSet m Ls ∧ Own B w Ls W ∧ m ≤ W.heap.size
theorem ownInv.stay {B m : Nat} {w : World} {Rel : Nat → Objs → Prop} (hm : w.heap.size ≤ m) : StayO (ownInv B m w Rel) := by
  rintro i O W W' ⟨Ls, h1, rfl, h3, h4⟩ t
  exact ⟨Ls, h1, rfl, h3.turn t (fun x hx => .inr ⟨x, hx, rfl⟩) (fun b hb => .inl (by omega)), Nat.le_trans h4 t.size⟩

/-- An element of an array. -/
theorem run_index_agg {P : Program} {t e : TypeId} {n : Nat} {cs : Array Value} {k : IntKind} {i : Nat} {v : Value} {w : World} (h : P.underlying t = some (.array n e)) (hi : i < n) (hna : ∀ w, (isAgg e).run P w = .ok false w) (hsz : (P.info? e).map (·.size) = some 1) (hv : cs[i]? = some v) :
    (Instr.index t (.agg cs) (.int k (i : Int))).run P w = .ok v w := by
  cases hq : P.info? e with
  | none => simp [hq] at hsz
  | some inf =>
    have hs : inf.size = 1 := by simpa [hq] using hsz
    unfold Instr.index
    simp [asIntOf, Sem.run_bind, run_underlying h, sizeOf, typeInfo, hq, hs, part, hna, hv, hi]

end Go.Proofs.Ytdglhppcfdpcaaa
namespace Go.Proofs.Ytdglhppcfdpcaaa
open Go Go.RowKit
end Go.Proofs.Ytdglhppcfdpcaaa
