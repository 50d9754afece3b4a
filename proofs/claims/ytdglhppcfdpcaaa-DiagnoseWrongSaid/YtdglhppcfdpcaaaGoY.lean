/- Several texts in one: Gr Gv Gy. -/
import Derived.Test.YtdglhppcfdpcaaaGoX
import Derived.Test.YtdglhppcfdpcaaaEeC
import Derived.Test.YtdglhppcfdpcaaaEeE
import Derived.Test.YtdglhppcfdpcaaaEeB
namespace Go.Proofs.Ytdglhppcfdpcaaa.E
open Go Go.RowKit Go.Shelf
set_option linter.unusedVariables false
/-- The slots of what is yielded. -/
def zipE : List Nat → List Value → Fe
  | p :: ps, v :: vs => zipE ps vs ++ [(p, v)]
  | _, _ => []
theorem putP_list (ps : List Nat) (vs : List Value) (t : Array Value) : putP t ps.toArray vs.toArray = (ps.zip vs).foldl (fun t x => t.setIfInBounds x.1 x.2) t := by
  unfold putP
  rw [List.zip_toArray, List.foldl_toArray]
theorem putP_cons (p : Nat) (ps : List Nat) (v : Value) (vs : List Value) (t : Array Value) : putP t (p :: ps).toArray (v :: vs).toArray = putP (t.setIfInBounds p v) ps.toArray vs.toArray := by
  rw [putP_list, putP_list]; rfl
theorem putP_get : ∀ (ps : List Nat) (vs : List Value) (t : Array Value) (i : Nat), ps.length = vs.length → (∀ p ∈ ps, p < t.size) →
    (putP t ps.toArray vs.toArray).getD i undef = match lk (zipE ps vs) i with | some v => v | none => t.getD i undef
  | [], [], t, i, _, _ => by rw [putP_list]; rfl
  | p :: ps, v :: vs, t, i, hl, hp => by
    rw [putP_cons, putP_get ps vs _ i (by simpa using hl) (fun q hq => by rw [Array.size_setIfInBounds]; exact hp q (List.mem_cons_of_mem _ hq))]
    show _ = match lk (zipE ps vs ++ [(p, v)]) i with | some v => v | none => t.getD i undef
    rw [lk_append]
    cases lk (zipE ps vs) i with
    | some u => rfl
    | none =>
      simp only
      have hpt := hp p List.mem_cons_self
      show _ = match (match Nat.beq p i with | true => some v | false => none) with | some v => v | none => t.getD i undef
      cases hb : Nat.beq p i with
      | true =>
        obtain rfl := Nat.eq_of_beq_eq_true hb
        simp [hpt]
      | false =>
        have hne : p ≠ i := fun e => by rw [e, Nat.beq_refl] at hb; cases hb
        simp [Array.getD_eq_getD_getElem?, hne]
  | [], _ :: _, _, _, h, _ => by simp at h
  | _ :: _, [], _, _, h, _ => by simp at h
theorem putP_size : ∀ (ps : List Nat) (vs : List Value) (t : Array Value), (putP t ps.toArray vs.toArray).size = t.size
  | [], _, t => by rw [putP_list]; rfl
  | p :: ps, [], t => by rw [putP_list]; rfl
  | p :: ps, v :: vs, t => by
    rw [putP_cons, putP_size, Array.size_setIfInBounds]
def fnR (S : List It) : Operand := match nf S with | .c (.rangeFunc g _ _ _) :: _ => g | _ => .const undef
def psR (S : List It) : List Nat := match nf S with | .c (.rangeFunc _ ps _ _) :: _ => ps.toList | _ => []
def asR (S : List It) : Code := match nf S with | .c (.rangeFunc _ _ x _) :: _ => x | _ => .skip
def bdR (S : List It) : Code := match nf S with | .c (.rangeFunc _ _ _ y) :: _ => y | _ => .skip
def isG (S : List It) : Bool := match nf S with | .c (.rangeFunc _ _ _ _) :: _ => true | _ => false
theorem isG_spec {S : List It} (h : isG S = true) : nf S = .c (.rangeFunc (fnR S) (psR S).toArray (asR S) (bdR S)) :: tlS S := by
  unfold isG at h
  unfold fnR psR asR bdR tlS
  split at h
  · rename_i g ps x y S' e
    rw [e]
  · cases h
/-- How a body may be left. -/
structure Xt where
  c : Code
  i : Nat
  L : Ents
section
variable {F : Fence} {n : Nat} {P : Program} {R : List Nat} {base : World} {Q : Exit → Act → World → Prop} {S : List It} {a : Sl} {sz : Nat} {es : Fe} {L : Ents} {Ds : List Nat}
/-- The end of an assignment. -/
def asQ (F : Fence) (n : Nat) (P : Program) (R : List Nat) (base : World) (sz : Nat) (KO : Objs) (Q : List Nat → World → Exit → Act → World → Prop) (c : Code) : Exit → Act → World → Prop
  | .normal, b, W => ∃ La, OwnE R base La W ∧ Holds KO La ∧ ∀ R2 W1, OwnE R2 W1 La W1 → c.wpIn F n P (Q R2 W1) b W1
  | _, _, _ => False
theorem ag {KO : List Objs} {Q2 : List Nat → World → Exit → Act → World → Prop} {c : Code} (ps : List Nat) (hk : ∀ R2 W2, Go F n P R2 W2 (Q2 R2 W2) [.c c] ⟨sz, es⟩ L []) (hh : ps.map (fun p => L[p]?) = KO.map (fun o => some (.c o)) := by kernel_rfl) (hS : (nf S).isEmpty = true := by kernel_rfl) :
    Go F n P R base (asQ F n P R base sz KO.flatten Q2 c) S ⟨sz, es⟩ L [] := by
  refine ⟨fun b W hb hO => runS_nf 1000 S ?_⟩
  rw [show nfS 1000 S = [] from List.isEmpty_iff.1 hS]
  exact ⟨L, by simpa using hO, holds_at ps hh, fun R2 W1 h => (hk R2 W1).out b W1 hb (by simpa using h)⟩
theorem OwnE.left {M : Ents} {W : World} (h : OwnE R base (L ++ M) W) : OwnE R base L W := by
  obtain ⟨cs, hs, hO⟩ := h.conc
  obtain ⟨ds, es, rfl, h1, h2⟩ := satL_split hs
  rw [List.flatten_append] at hO
  exact OwnE.ofS h1 (hO.sub (List.sublist_append_left _ _))
/-- A body's end; a body is left. -/
theorem ne {Rel : Ents → Prop} {Rx : Code → Ents → Prop} (L' : Ents) (hr : Rel L') (ps : List Nat) (hL : (nodupB (ps.map fun p => [p]).flatten, (ps.map fun p => [p]).map fun g => g.map fun p => L[p]?) = (true, (L'.map fun x => [x]).map fun N => N.map some)) (hS : (nf S).isEmpty = true := by kernel_rfl) : Go F n P R base (endE R base Rel Rx) S ⟨sz, es⟩ L Ds := by
  refine ⟨fun b W hb hO => runS_nf 1000 S ?_⟩
  rw [show nfS 1000 S = [] from List.isEmpty_iff.1 hS]
  exact ⟨L', hO.left.pick ps L' hL, hr⟩
theorem nr {Rel : Ents → Prop} {Rx : Code → Ents → Prop} (L' : Ents) (hr : Rx .ret L') (ps : List Nat) (hL : (nodupB (ps.map fun p => [p]).flatten, (ps.map fun p => [p]).map fun g => g.map fun p => L[p]?) = (true, (L'.map fun x => [x]).map fun N => N.map some)) (hS : isRet S = true := by kernel_rfl) : Go F n P R base (endE R base Rel Rx) S ⟨sz, es⟩ L Ds := by
  refine ⟨fun b W hb hO => runS_nf 1000 S ?_⟩
  unfold isRet at hS
  split at hS
  · rename_i S' e
    rw [show nfS 1000 S = _ from e]
    exact wpIn_ret (runS_ret ⟨L', hO.left.pick ps L' hL, hr⟩)
  · cases hS
def exS (S : List It) : Option Nat := match nf S with
  | .x id :: S' => (match popE id S' with | none => some id | some _ => none)
  | _ => none
theorem nx {Rel : Ents → Prop} {Rx : Code → Ents → Prop} (id : Nat) (L' : Ents) (hr : Rx (.exit id) L') (ps : List Nat) (hL : (nodupB (ps.map fun p => [p]).flatten, (ps.map fun p => [p]).map fun g => g.map fun p => L[p]?) = (true, (L'.map fun x => [x]).map fun N => N.map some)) (hS : exS S = some id := by kernel_rfl) : Go F n P R base (endE R base Rel Rx) S ⟨sz, es⟩ L Ds := by
  refine ⟨fun b W hb hO => runS_nf 1000 S ?_⟩
  unfold exS at hS
  split at hS
  · rename_i j S' e
    rw [show nfS 1000 S = _ from e]
    split at hS
    · rename_i hp
      cases hS
      exact runS_out hp ⟨L', hO.left.pick ps L' hL, hr⟩
    · cases hS
  · cases hS
/-- A range over a function. -/
theorem rf {α : Type} {gf : Nat} {lb : Array Value} {encs : α → Array Value} {xs : List α} {KO : List Objs} (hit : IterE 5 P gf lb encs xs KO.flatten) (eg : Enters P gf) (Rel : Nat → Ents → Prop) (Rx : Code → Nat → Ents → Prop) (ps0 : List Nat) (h0 : Rel 0 L)
    (hKO : ∀ i L', Rel i L' → Holds KO.flatten L') (hKx : ∀ c i L', Rx c i L' → Holds KO.flatten L') (hps : ∀ x, (encs x).size = (psR S).length)
    (hround : ∀ (l i : Nat) (x : α) (L' : Ents) (R1 : List Nat) (W1 : World), xs[i]? = some x → Rel i L' → Go (Fence.wide.inRound l) 4 P R1 W1 (asQ (Fence.wide.inRound l) 4 P R1 W1 sz KO.flatten (fun R2 W2 => endE R2 W2 (Rel (i + 1)) fun c => Rx c (i + 1)) (bdR S)) [.c (asR S)] ⟨sz, zipE (psR S) (encs x).toList ++ es⟩ L' [])
    (hdone : ∀ (D : Nat) (L' : Ents), Rel xs.length L' → Go Fence.wide 6 P R base Q (tlS S) ⟨sz, es⟩ L' (D :: Ds))
    (hstop : ∀ (D : Nat) (c : Code) (i : Nat) (L' : Ents), i < xs.length → Rx c (i + 1) L' → Go Fence.wide 6 P R base Q (.c c :: tlS S) ⟨sz, es⟩ L' (D :: Ds))
    (hc : (isG S, (⟨sz, es⟩ : Sl).ev (fnR S), (psR S).all (Nat.blt · sz), nodupB (ps0.map fun p => [p]).flatten, (ps0.map fun p => [p]).map fun g => g.map fun p => L[p]?) = (true, .func (.func gf) #[] lb, true, true, ((KO.map Ent.c).map fun x => [x]).map fun N => N.map some) := by kernel_rfl)
    (hkn : (match fnR S with | .tmp i => (lk es i).isSome | _ => true) = true := by kernel_rfl) : Go Fence.wide 6 P R base Q S ⟨sz, es⟩ L Ds := by
  have c1 := congrArg (fun x => x.1) hc
  have c2 := congrArg (fun x => x.2.1) hc
  have c3 := congrArg (fun x => x.2.2.1) hc
  have c4 := congrArg (fun x => x.2.2.2) hc
  simp only at c1 c2 c3 c4
  refine ⟨fun b W hb hO => runS_nf 1000 S ?_⟩
  rw [show nfS 1000 S = _ from isG_spec c1]
  show (Code.rangeFunc (fnR S) (psR S).toArray (asR S) (bdR S)).wpIn Fence.wide 6 P (runS Fence.wide 6 P Q (tlS S)) b W
  obtain ⟨R1, OC, OW⟩ := hO.seg
  have hg : b.eval (fnR S) = .func (.func gf) #[] lb := by
    rw [hb.ev fun i hi => by rw [hi] at hkn; exact hkn]
    exact c2
  have hnd : KO.flatten.Pairwise fun x y => x.1 ≠ y.1 := by
    exact OwnE.ndC (Os := KO) (R := R1) (base := W) (W := W) (OW.out.pick ps0 _ c4)
  refine reE_iter (n := 6) (by omega) hg eg hit Rel Rx OW h0 hKO hKx hnd (fun x => by rw [hps x]; simp) ?_ ?_ ?_
  · intro l i x L' R2 W1 hx hr hO1
    have h := hround l i x L' R2 W1 hx hr
    have hsz : (encs x).toList.length = (psR S).length := by rw [Array.length_toList]; exact hps x
    have hlt : ∀ p ∈ psR S, p < b.tmps.size := fun p hp => by rw [hb.size]; exact Nat.blt_eq ▸ List.all_eq_true.1 c3 p hp
    have hfr : Fr ⟨sz, zipE (psR S) (encs x).toList ++ es⟩ [] { tmps := putP b.tmps (psR S).toArray (encs x), defers := [] } := by
      have ee : encs x = (encs x).toList.toArray := by simp
      refine ⟨?_, fun i v hv => ?_, rfl⟩
      · show (putP b.tmps (psR S).toArray (encs x)).size = sz
        rw [ee, putP_size]; exact hb.size
      · show (putP b.tmps (psR S).toArray (encs x)).getD i undef = v
        rw [ee, putP_get _ _ _ i hsz.symm hlt]
        simp only [lk_append] at hv
        cases h1 : lk (zipE (psR S) (encs x).toList) i with
        | some u => rw [h1] at hv; cases hv; rfl
        | none => rw [h1] at hv; exact hb.get i v hv
    refine wpIn_mono (show (asR S).wpIn (Fence.wide.inRound l) 4 P _ _ W1 from h.out _ W1 hfr (by simpa using hO1.out)) fun e a' Wa hq => ?_
    cases e with
    | normal =>
      obtain ⟨La, q1, q2, q3⟩ := hq
      exact ⟨La, q1, q2, fun R3 W3 h3 => q3 R3 W3 h3.out⟩
    | _ => exact hq
  · intro D L' W2 hr hO2
    obtain ⟨R3, OC3, OW3⟩ := Clo.markE OC.out hO2.out
    exact (hdone D L' hr).out _ W2 ⟨hb.size, hb.get, by show markD D :: b.defers = _; rw [hb.defers]; rfl⟩ (OC3.out.whole OW3.out)
  · intro D c i L' W2 hi hr hO2
    obtain ⟨R3, OC3, OW3⟩ := Clo.markE OC.out hO2.out
    exact (hstop D c i L' hi hr).out _ W2 ⟨hb.size, hb.get, by show markD D :: b.defers = _; rw [hb.defers]; rfl⟩ (OC3.out.whole OW3.out)
/-- A range over a function that is given the blocks XO. -/
theorem rfG {α : Type} {gf : Nat} {lb : Array Value} {encs : α → Array Value} {xs : List α} {KO : List Objs} {XO : Objs} (hit : IterG 5 P gf lb encs xs KO.flatten XO) (eg : Enters P gf) (Rel : Nat → Ents → Prop) (Rx : Code → Nat → Ents → Prop) (LG : Ents) (qs ps0 : List Nat) (hq : (nodupB (qs.map fun p => [p]).flatten, (qs.map fun p => [p]).map fun g => g.map fun p => L[p]?) = (true, ((LG ++ [Ent.c XO]).map fun x => [x]).map fun N => N.map some)) (h0 : Rel 0 LG)
    (hKO : ∀ i L', Rel i L' → Holds KO.flatten L') (hKx : ∀ c i L', Rx c i L' → Holds KO.flatten L') (hps : ∀ x, (encs x).size = (psR S).length)
    (hround : ∀ (l i : Nat) (x : α) (L' : Ents) (R1 : List Nat) (W1 : World), xs[i]? = some x → Rel i L' → Go (Fence.wide.inRound l) 4 P R1 W1 (asQ (Fence.wide.inRound l) 4 P R1 W1 sz KO.flatten (fun R2 W2 => endE R2 W2 (Rel (i + 1)) fun c => Rx c (i + 1)) (bdR S)) [.c (asR S)] ⟨sz, zipE (psR S) (encs x).toList ++ es⟩ L' [])
    (hdone : ∀ (D : Nat) (L' : Ents), Rel xs.length L' → Go Fence.wide 6 P R base Q (tlS S) ⟨sz, es⟩ L' (D :: Ds))
    (hstop : ∀ (D : Nat) (c : Code) (i : Nat) (L' : Ents), i < xs.length → Rx c (i + 1) L' → Go Fence.wide 6 P R base Q (.c c :: tlS S) ⟨sz, es⟩ L' (D :: Ds))
    (hc : (isG S, (⟨sz, es⟩ : Sl).ev (fnR S), (psR S).all (Nat.blt · sz), nodupB (ps0.map fun p => [p]).flatten, (ps0.map fun p => [p]).map fun g => g.map fun p => L[p]?) = (true, .func (.func gf) #[] lb, true, true, (((KO ++ [XO]).map Ent.c).map fun x => [x]).map fun N => N.map some) := by kernel_rfl)
    (hkn : (match fnR S with | .tmp i => (lk es i).isSome | _ => true) = true := by kernel_rfl) : Go Fence.wide 6 P R base Q S ⟨sz, es⟩ L Ds := by
  have c1 := congrArg (fun x => x.1) hc
  have c2 := congrArg (fun x => x.2.1) hc
  have c3 := congrArg (fun x => x.2.2.1) hc
  have c4 := congrArg (fun x => x.2.2.2) hc
  simp only at c1 c2 c3 c4
  refine ⟨fun b W hb hO => runS_nf 1000 S ?_⟩
  rw [show nfS 1000 S = _ from isG_spec c1]
  show (Code.rangeFunc (fnR S) (psR S).toArray (asR S) (bdR S)).wpIn Fence.wide 6 P (runS Fence.wide 6 P Q (tlS S)) b W
  obtain ⟨R1, OC, OW⟩ := hO.seg
  have hg : b.eval (fnR S) = .func (.func gf) #[] lb := by
    rw [hb.ev fun i hi => by rw [hi] at hkn; exact hkn]
    exact c2
  have hnd : (KO.flatten ++ XO).Pairwise fun x y => x.1 ≠ y.1 := by
    have h9 := OwnE.ndC (Os := KO ++ [XO]) (R := R1) (base := W) (W := W) (OW.out.pick ps0 _ c4)
    simpa using h9
  refine reG_iter (n := 6) (by omega) hg eg hit Rel Rx (Lib.hid (OW.out.pick qs _ hq)) h0 hKO hKx hnd (fun x => by rw [hps x]; simp) ?_ ?_ ?_
  · intro l i x L' R2 W1 hx hr hO1
    have h := hround l i x L' R2 W1 hx hr
    have hsz : (encs x).toList.length = (psR S).length := by rw [Array.length_toList]; exact hps x
    have hlt : ∀ p ∈ psR S, p < b.tmps.size := fun p hp => by rw [hb.size]; exact Nat.blt_eq ▸ List.all_eq_true.1 c3 p hp
    have hfr : Fr ⟨sz, zipE (psR S) (encs x).toList ++ es⟩ [] { tmps := putP b.tmps (psR S).toArray (encs x), defers := [] } := by
      have ee : encs x = (encs x).toList.toArray := by simp
      refine ⟨?_, fun i v hv => ?_, rfl⟩
      · show (putP b.tmps (psR S).toArray (encs x)).size = sz
        rw [ee, putP_size]; exact hb.size
      · show (putP b.tmps (psR S).toArray (encs x)).getD i undef = v
        rw [ee, putP_get _ _ _ i hsz.symm hlt]
        simp only [lk_append] at hv
        cases h1 : lk (zipE (psR S) (encs x).toList) i with
        | some u => rw [h1] at hv; cases hv; rfl
        | none => rw [h1] at hv; exact hb.get i v hv
    refine wpIn_mono (show (asR S).wpIn (Fence.wide.inRound l) 4 P _ _ W1 from h.out _ W1 hfr (by simpa using hO1.out)) fun e a' Wa hq => ?_
    cases e with
    | normal =>
      obtain ⟨La, q1, q2, q3⟩ := hq
      exact ⟨La, q1, q2, fun R3 W3 h3 => q3 R3 W3 h3.out⟩
    | _ => exact hq
  · intro D L' W2 hr hO2
    obtain ⟨R3, OC3, OW3⟩ := Clo.markE OC.out hO2.out
    exact (hdone D L' hr).out _ W2 ⟨hb.size, hb.get, by show markD D :: b.defers = _; rw [hb.defers]; rfl⟩ (OC3.out.whole OW3.out)
  · intro D c i L' W2 hi hr hO2
    obtain ⟨R3, OC3, OW3⟩ := Clo.markE OC.out hO2.out
    exact (hstop D c i L' hi hr).out _ W2 ⟨hb.size, hb.get, by show markD D :: b.defers = _; rw [hb.defers]; rfl⟩ (OC3.out.whole OW3.out)
/-! Without exits; with slices' values that turn. -/
theorem rf0 {α : Type} {gf : Nat} {lb : Array Value} {encs : α → Array Value} {xs : List α} {KO : List Objs} (hit : IterE 5 P gf lb encs xs KO.flatten) (eg : Enters P gf) (I : Nat → Prop) (LI : Nat → Ents → Ents) (ps0 : List Nat) (h0 : I 0) (hL : L = LI 0 L)
    (hround : ∀ (l i : Nat) (x : α) (R1 : List Nat) (W1 : World), xs[i]? = some x → I i → Go (Fence.wide.inRound l) 4 P R1 W1 (asQ (Fence.wide.inRound l) 4 P R1 W1 sz KO.flatten (fun R2 W2 => endE R2 W2 (fun L' => I (i + 1) ∧ L' = LI (i + 1) L) fun _ _ => False) (bdR S)) [.c (asR S)] ⟨sz, zipE (psR S) (encs x).toList ++ es⟩ (LI i L) [])
    (hdone : ∀ (D : Nat), I xs.length → Go Fence.wide 6 P R base Q (tlS S) ⟨sz, es⟩ (LI xs.length L) (D :: Ds))
    (hK : ∀ i, ps0.map (fun p => (LI i L)[p]?) = KO.map fun o => some (.c o) := by intros; kernel_rfl) (hps : ∀ x, (encs x).size = (psR S).length := by intro _; kernel_rfl)
    (hc : (isG S, (⟨sz, es⟩ : Sl).ev (fnR S), (psR S).all (Nat.blt · sz), nodupB (ps0.map fun p => [p]).flatten, (ps0.map fun p => [p]).map fun g => g.map fun p => L[p]?) = (true, .func (.func gf) #[] lb, true, true, ((KO.map Ent.c).map fun x => [x]).map fun N => N.map some) := by kernel_rfl)
    (hkn : (match fnR S with | .tmp i => (lk es i).isSome | _ => true) = true := by kernel_rfl) : Go Fence.wide 6 P R base Q S ⟨sz, es⟩ L Ds := by
  refine rf hit eg (fun i L' => I i ∧ L' = LI i L) (fun _ _ _ => False) ps0 ⟨h0, hL⟩ (fun i L' h => ?_) (fun _ _ _ h => h.elim) hps (fun l i x L' R1 W1 hx h => ?_) (fun D L' h => ?_) (fun _ _ _ _ _ h => h.elim) hc hkn
  · obtain ⟨hI, rfl⟩ := h; exact holds_at ps0 (hK i)
  · obtain ⟨hI, rfl⟩ := h; exact hround l i x R1 W1 hx hI
  · obtain ⟨hI, rfl⟩ := h; exact hdone D hI
theorem rfG0 {α : Type} {gf : Nat} {lb : Array Value} {encs : α → Array Value} {xs : List α} {KO : List Objs} {XO : Objs} (hit : IterG 5 P gf lb encs xs KO.flatten XO) (eg : Enters P gf) (I : Nat → Prop) (LI : Nat → Ents → Ents) (LG : Ents) (qs pb ps0 : List Nat) (h0 : I 0) (hL : LG = LI 0 LG)
    (hround : ∀ (l i : Nat) (x : α) (R1 : List Nat) (W1 : World), xs[i]? = some x → I i → Go (Fence.wide.inRound l) 4 P R1 W1 (asQ (Fence.wide.inRound l) 4 P R1 W1 sz KO.flatten (fun R2 W2 => endE R2 W2 (fun L' => I (i + 1) ∧ L' = LI (i + 1) LG) fun _ _ => False) (bdR S)) [.c (asR S)] ⟨sz, zipE (psR S) (encs x).toList ++ es⟩ (LI i LG) [])
    (hdone : ∀ (D : Nat), I xs.length → Go Fence.wide 6 P R base Q (tlS S) ⟨sz, es⟩ (LI xs.length LG) (D :: Ds))
    (hK : ∀ i, ps0.map (fun p => (LI i LG)[p]?) = KO.map fun o => some (.c o) := by intros; kernel_rfl) (hps : ∀ x, (encs x).size = (psR S).length := by intro _; kernel_rfl)
    (hc : (isG S, (⟨sz, es⟩ : Sl).ev (fnR S), (psR S).all (Nat.blt · sz), nodupB (pb.map fun p => [p]).flatten, (pb.map fun p => [p]).map fun g => g.map fun p => L[p]?) = (true, .func (.func gf) #[] lb, true, true, (((KO ++ [XO]).map Ent.c).map fun x => [x]).map fun N => N.map some) := by kernel_rfl)
    (hq : (nodupB (qs.map fun p => [p]).flatten, (qs.map fun p => [p]).map fun g => g.map fun p => L[p]?) = (true, ((LG ++ [Ent.c XO]).map fun x => [x]).map fun N => N.map some) := by kernel_rfl)
    (hkn : (match fnR S with | .tmp i => (lk es i).isSome | _ => true) = true := by kernel_rfl) : Go Fence.wide 6 P R base Q S ⟨sz, es⟩ L Ds := by
  refine rfG hit eg (fun i L' => I i ∧ L' = LI i LG) (fun _ _ _ => False) LG qs pb hq ⟨h0, hL⟩ (fun i L' h => ?_) (fun _ _ _ h => h.elim) hps (fun l i x L' R1 W1 hx h => ?_) (fun D L' h => ?_) (fun _ _ _ _ _ h => h.elim) hc hkn
  · obtain ⟨hI, rfl⟩ := h; exact holds_at ps0 (hK i)
  · obtain ⟨hI, rfl⟩ := h; exact hround l i x R1 W1 hx hI
  · obtain ⟨hI, rfl⟩ := h; exact hdone D hI
theorem rf1 {α : Type} {gf : Nat} {lb : Array Value} {encs : α → Array Value} {xs : List α} {KO : List Objs} (hit : IterE 5 P gf lb encs xs KO.flatten) (eg : Enters P gf) (I : Nat → Value → Prop) (LI : Nat → Value → Ents → Ents) (ps0 : List Nat) (u0 : Value) (h0 : I 0 u0) (hL : L = LI 0 u0 L)
    (hround : ∀ (l i : Nat) (u : Value) (x : α) (R1 : List Nat) (W1 : World), xs[i]? = some x → I i u → Go (Fence.wide.inRound l) 4 P R1 W1 (asQ (Fence.wide.inRound l) 4 P R1 W1 sz KO.flatten (fun R2 W2 => endE R2 W2 (fun L' => ∃ u : Value, I (i + 1) u ∧ L' = LI (i + 1) u L) fun _ _ => False) (bdR S)) [.c (asR S)] ⟨sz, zipE (psR S) (encs x).toList ++ es⟩ (LI i u L) [])
    (hdone : ∀ (D : Nat) (u : Value), I xs.length u → Go Fence.wide 6 P R base Q (tlS S) ⟨sz, es⟩ (LI xs.length u L) (D :: Ds))
    (hK : ∀ i (u : Value), ps0.map (fun p => (LI i u L)[p]?) = KO.map fun o => some (.c o) := by intros; kernel_rfl) (hps : ∀ x, (encs x).size = (psR S).length := by intro _; kernel_rfl)
    (hc : (isG S, (⟨sz, es⟩ : Sl).ev (fnR S), (psR S).all (Nat.blt · sz), nodupB (ps0.map fun p => [p]).flatten, (ps0.map fun p => [p]).map fun g => g.map fun p => L[p]?) = (true, .func (.func gf) #[] lb, true, true, ((KO.map Ent.c).map fun x => [x]).map fun N => N.map some) := by kernel_rfl)
    (hkn : (match fnR S with | .tmp i => (lk es i).isSome | _ => true) = true := by kernel_rfl) : Go Fence.wide 6 P R base Q S ⟨sz, es⟩ L Ds := by
  refine rf hit eg (fun i L' => ∃ u : Value, I i u ∧ L' = LI i u L) (fun _ _ _ => False) ps0 ⟨u0, h0, hL⟩ (fun i L' h => ?_) (fun _ _ _ h => h.elim) hps (fun l i x L' R1 W1 hx h => ?_) (fun D L' h => ?_) (fun _ _ _ _ _ h => h.elim) hc hkn
  · obtain ⟨u, hI, rfl⟩ := h; exact holds_at ps0 (hK i u)
  · obtain ⟨u, hI, rfl⟩ := h; exact hround l i u x R1 W1 hx hI
  · obtain ⟨u, hI, rfl⟩ := h; exact hdone D u hI
/-! With exits. -/
theorem rfx0 {α : Type} {gf : Nat} {lb : Array Value} {encs : α → Array Value} {xs : List α} {KO : List Objs} (hit : IterE 5 P gf lb encs xs KO.flatten) (eg : Enters P gf) (I : Nat → Prop) (LI : Nat → Ents → Ents) (X : Code → Nat → Prop) (LX : Code → Nat → Ents → Ents) (ps0 : List Nat) (h0 : I 0) (hL : L = LI 0 L)
    (hround : ∀ (l i : Nat) (x : α) (R1 : List Nat) (W1 : World), xs[i]? = some x → I i → Go (Fence.wide.inRound l) 4 P R1 W1 (asQ (Fence.wide.inRound l) 4 P R1 W1 sz KO.flatten (fun R2 W2 => endE R2 W2 (fun L' => I (i + 1) ∧ L' = LI (i + 1) L) (fun c L' => X c (i + 1) ∧ L' = LX c (i + 1) L)) (bdR S)) [.c (asR S)] ⟨sz, zipE (psR S) (encs x).toList ++ es⟩ (LI i L) [])
    (hdone : ∀ (D : Nat), I xs.length → Go Fence.wide 6 P R base Q (tlS S) ⟨sz, es⟩ (LI xs.length L) (D :: Ds))
    (hstop : ∀ (D : Nat) (c : Code) (i : Nat), i < xs.length → X c (i + 1) → Go Fence.wide 6 P R base Q (.c c :: tlS S) ⟨sz, es⟩ (LX c (i + 1) L) (D :: Ds))
    (hK : ∀ i, ps0.map (fun p => (LI i L)[p]?) = KO.map fun o => some (.c o) := by intros; kernel_rfl) (hKX : ∀ c i, X c i → ps0.map (fun p => (LX c i L)[p]?) = KO.map fun o => some (.c o) := by intros; kernel_rfl) (hps : ∀ x, (encs x).size = (psR S).length := by intro _; kernel_rfl)
    (hc : (isG S, (⟨sz, es⟩ : Sl).ev (fnR S), (psR S).all (Nat.blt · sz), nodupB (ps0.map fun p => [p]).flatten, (ps0.map fun p => [p]).map fun g => g.map fun p => L[p]?) = (true, .func (.func gf) #[] lb, true, true, ((KO.map Ent.c).map fun x => [x]).map fun N => N.map some) := by kernel_rfl)
    (hkn : (match fnR S with | .tmp i => (lk es i).isSome | _ => true) = true := by kernel_rfl) : Go Fence.wide 6 P R base Q S ⟨sz, es⟩ L Ds := by
  refine rf hit eg (fun i L' => I i ∧ L' = LI i L) (fun c i L' => X c i ∧ L' = LX c i L) ps0 ⟨h0, hL⟩ (fun i L' h => ?_) (fun c i L' h => ?_) hps (fun l i x L' R1 W1 hx h => ?_) (fun D L' h => ?_) (fun D c i L' hi h => ?_) hc hkn
  · obtain ⟨hI, rfl⟩ := h; exact holds_at ps0 (hK i)
  · obtain ⟨hI, rfl⟩ := h; exact holds_at ps0 (hKX c i hI)
  · obtain ⟨hI, rfl⟩ := h; exact hround l i x R1 W1 hx hI
  · obtain ⟨hI, rfl⟩ := h; exact hdone D hI
  · obtain ⟨hI, rfl⟩ := h; exact hstop D c i hi hI
end
end Go.Proofs.Ytdglhppcfdpcaaa.E
namespace Go.Proofs.Ytdglhppcfdpcaaa.E
open Go Go.RowKit Go.Shelf
set_option linter.unusedVariables false
def guardsB (k : Nat) (L : List Oper) : Bool := L.all fun o => match o.guard with | none => true | some (j, _) => Nat.blt j k
section
variable {F : Fence} {n : Nat} {P : Program} {L : List Oper} {Q : Exit → Act → World → Prop} {a : Act} {t : Told} {R : List Nat} {base : World}
theorem wanted_take {LL : List Oper} {k : Nat} {o : Oper} {tm : Array Value} (h : match o.guard with | none => true = true | some (j, _) => Nat.blt j k = true) : Region.wanted o (yielded LL.toArray tm) = Region.wanted o (yielded (LL.take k).toArray tm) := by
  unfold Region.wanted
  cases hg : o.guard with
  | none => rfl
  | some jb =>
    obtain ⟨j, b⟩ := jb
    rw [hg] at h
    have h' : j < k := Nat.blt_eq ▸ h
    have : yielded LL.toArray tm j = yielded (LL.take k).toArray tm j := by
      unfold yielded
      rw [List.getElem?_toArray, List.getElem?_toArray, List.getElem?_take, if_pos h']
    simp only [this]
theorem wpListIn_reT {LL : List Oper} {N : Nat} (hL : LL.take N = L) (hops : guardsB N L = true) (h : ReOk F n P L Q a t) (hF : Fence.free F) (hsl : slotsB L = true) (hD : ∀ k, k < L.length → ∀ j ∈ t.D k, j < k)
    (hend : ∀ xs w', InvR L a t R base (fun _ => true) xs w' → wpListIn F n P LL.toArray Q (LL.drop N) (putsH xs L 0 a) w') :
    ∀ (d k : Nat) (xs : Nat → Value) (w' : World), k + d = L.length → InvR L a t R base (fun i => decide (i < k)) xs w' → wpListIn F n P LL.toArray Q (L.drop k ++ LL.drop N) (putsH xs L 0 a) w'
  | 0, k, xs, w', hk, hI => by
    obtain rfl : k = L.length := by omega
    rw [List.drop_length, List.nil_append]
    exact hend xs w' (hI.congr (fun i hi => by simpa using hi) (fun _ _ => rfl))
  | d + 1, k, xs, w', hk, hI => by
    have hkl : k < L.length := by omega
    rw [List.drop_eq_getElem_cons hkl, List.cons_append]
    have hol : L[k]? = some L[k] := List.getElem?_eq_getElem hkl
    have hst := re_step h (S := fun i => decide (i < k)) (xs := xs) (w' := w') (k := k) (o := L[k]) hkl hol (by simp) (fun j hj => ⟨by have := hD k hkl j hj; omega, by simpa using hD k hkl j hj⟩)
      (fun i hi hs j hj => by
        have h1 := hD i hi j hj
        have h2 : i < k := by simpa using hs
        exact ⟨by omega, by simp; omega⟩) hI
      (fun v w'' => wpListIn F n P LL.toArray Q (L.drop (k + 1) ++ LL.drop N) ((putsH xs L 0 a).put L[k].dst v) w'') (fun v w'' hI2 => by
        rw [putsH_set v _ 0 a k _ hsl hol, Nat.zero_add]
        refine wpListIn_reT hL hops h hF hsl hD hend d (k + 1) _ w'' (by omega) (hI2.congr (fun j hj => ?_) (fun _ _ => rfl))
        show (if j = k then true else decide (j < k)) = decide (j < k + 1)
        by_cases e : j = k
        · subst e; simp
        · rw [if_neg e, decide_eq_decide]; omega) hF
    have hwa : Region.wanted L[k] (yielded LL.toArray (putsH xs L 0 a).tmps) = Region.wanted L[k] (yielded L.toArray (putsH xs L 0 a).tmps) := by
      rw [wanted_take (k := N), hL]
      have := List.all_eq_true.1 hops L[k] (List.getElem_mem hkl)
      revert this
      cases L[k].guard with
      | none => exact fun h => h
      | some jb => exact fun h => h
    unfold wpListIn
    rw [hwa]
    split
    · rename_i hw
      rw [if_pos hw] at hst
      exact Oper.wpIn_mono (fun a'' w'' ⟨v, e, h⟩ => by rw [e]; exact h) hst
    · rename_i hw
      rw [if_neg hw] at hst
      exact hst
theorem wpAnyIn_reT {LL : List Oper} {N : Nat} (hL : LL.take N = L) (hops : guardsB N L = true) (hNl : N < LL.length) (hs : Region.sinkB .any LL.toArray N = true) (h : ReOk F n P L Q a t) (hF : Fence.free F) (hc : Region.chainB .any LL.toArray N = true) (hb : backB .any LL.toArray N = true) (hb0 : backB .any LL.toArray 0 = true) (hsl : slotsB L = true) (hD : depsB .any LL.toArray N t.D = true)
    (hend : ∀ xs w', InvR L a t R base (fun _ => true) xs w' → wpListIn F n P LL.toArray Q (LL.drop N) (putsH xs L 0 a) w') :
    ∀ (c fuel : Nat) (listed : Array Bool) (xs : Nat → Value) (w' : World), cntH listed N = c → c + (LL.length - N) ≤ fuel → HeadInv .any LL.toArray N listed →
      (∀ i, i < N → listed.getD i false = true → ∀ j ∈ t.D i, listed.getD j false = true) → InvR L a t R base (fun i => listed.getD i false) xs w' → wpAnyIn F n P .any LL.toArray Q fuel listed (putsH xs L 0 a) w'
  | 0, fuel, listed, xs, w', hcnt, hf, inv, hk, hI => by
    have hN : L.length = N := by rw [← hL, List.length_take]; omega
    have hall := cntH_zero N hcnt
    have hall2 : ∀ i, i < N → listed.getD i false = true := by
      intro i hi
      have h2 : i < listed.size := by rw [inv.size, List.size_toArray]; omega
      have := hall i hi
      simp [h2] at this ⊢
      exact this
    exact wpAnyIn_chain hc hb (LL.length - N) N fuel listed _ w' (by rw [List.size_toArray]; omega) (Nat.le_refl _) (by omega) inv.size hall hall2 inv.tail (by simpa using hend xs w' (hI.congr (fun i hi => hall2 i (by omega)) (fun _ _ => rfl)))
  | c + 1, fuel, listed, xs, w', hcnt, hf, inv, hk, hI => by
    have hN : L.length = N := by rw [← hL, List.length_take]; omega
    obtain ⟨f, rfl⟩ : ∃ f, fuel = f + 1 := ⟨fuel - 1, by omega⟩
    have hun : ∃ i, i < N ∧ listed.getD i true = false := by
      apply Classical.byContradiction
      intro hno
      have hall : ∀ i, i < N → listed.getD i true = true := fun i hi => by
        cases hl : listed.getD i true with
        | true => rfl
        | false => exact (hno ⟨i, hi, hl⟩).elim
      have : ∀ k, k ≤ N → cntH listed k = 0 := by
        intro k
        induction k with
        | zero => intro _; rfl
        | succ k ih => intro h; unfold cntH; rw [ih (by omega), hall k (by omega)]; rfl
      rw [this N (Nat.le_refl _)] at hcnt
      omega
    obtain ⟨i0, hi0, hu0⟩ := hun
    have some : Region.ready .any LL.toArray listed = [] → ∀ d i, i = d → i < N → listed.getD i true = true := by
      intro hnil d
      induction d using Nat.strongRecOn with
      | _ d ih =>
        rintro i rfl hi
        cases hl : listed.getD i true with
        | true => rfl
        | false =>
          exfalso
          have hilt : i < LL.toArray.size := by rw [List.size_toArray]; omega
          have hok : LL.toArray[i]? = some LL.toArray[i] := Array.getElem?_eq_getElem hilt
          have hB := List.all_eq_true.1 hb0 i (List.mem_range.2 hilt)
          rw [hok] at hB
          simp only [Bool.or_eq_true, decide_eq_true_eq, Option.map_some, Option.getD_some, Nat.not_lt_zero, false_or] at hB
          have : i ∈ Region.ready .any LL.toArray listed := mem_ready.2 ⟨hl, _, hok, fun e he hbd => by
            have h2 := Array.all_eq_true'.1 hB e he
            rw [hbd] at h2
            have h3 : e.on < i := by simpa using h2
            have h4 := ih e.on h3 e.on rfl (by omega)
            have h5 : e.on < listed.size := by rw [inv.size, List.size_toArray]; omega
            rw [Array.getD_eq_getD_getElem?, Array.getElem?_eq_getElem h5] at h4 ⊢
            exact h4⟩
          rw [hnil] at this; cases this
    refine ⟨fun hnil => (by have := some hnil i0 i0 rfl hi0; rw [hu0] at this; cases this), fun i hi => ?_⟩
    have hiN : i < N := by
      rcases Nat.lt_or_ge i N with h1 | h1
      · exact h1
      · exact (tail_waits hs hc (by rw [List.size_toArray]; exact hNl) inv _ i0 rfl hi0 hu0 i h1 hi).elim
    obtain ⟨hl, o, ho, hall⟩ := mem_ready.1 hi
    have hol : L[i]? = Option.some o := by rw [← hL, List.getElem?_take_of_lt hiN, ← List.getElem?_toArray]; exact ho
    have hDi : ∀ j ∈ t.D i, j < N ∧ listed.getD j false = true := by
      intro j hj
      have h1 := List.all_eq_true.1 (List.all_eq_true.1 hD i (List.mem_range.2 hiN)) j hj
      rw [ho] at h1
      simp only [Option.map_some, Option.getD_some, Bool.and_eq_true, decide_eq_true_eq] at h1
      refine ⟨h1.1, ?_⟩
      obtain ⟨e, he, h2⟩ := Array.any_eq_true'.1 h1.2
      simp only [Bool.and_eq_true, Bool.or_eq_true, beq_iff_eq, decide_eq_true_eq] at h2
      have h3 := hall e he h2.1
      rcases h2.2 with h4 | ⟨h4, h5⟩
      · rw [← h4]; exact h3
      · exact hk e.on h4 h3 j (by simpa using h5)
    have hDlt : ∀ i, i < N → ∀ j ∈ t.D i, j < N := by
      intro i hi j hj
      have h1 := List.all_eq_true.1 (List.all_eq_true.1 hD i (List.mem_range.2 hi)) j hj
      simp only [Bool.and_eq_true, decide_eq_true_eq] at h1
      exact h1.1
    have hSi : listed.getD i false = false := by
      have h2 : i < listed.size := by rw [inv.size, List.size_toArray]; omega
      simp [h2] at hl ⊢
      exact hl
    have hst := re_step h (S := fun i => listed.getD i false) (xs := xs) (w' := w') (k := i) (o := o) (by omega) hol hSi (fun j hj => ⟨by have := (hDi j hj).1; omega, (hDi j hj).2⟩) (fun i' hi' hs j hj => ⟨by have := hDlt i' (by omega) j hj; omega, hk i' (by omega) hs j hj⟩) hI
      (fun v w'' => wpAnyIn F n P .any LL.toArray Q f (listed.setIfInBounds i true) ((putsH xs L 0 a).put o.dst v) w'') (fun v w'' hI2 => by
        rw [putsH_set v _ 0 a i o hsl hol, Nat.zero_add]
        refine wpAnyIn_reT hL hops hNl hs h hF hc hb hb0 hsl hD hend c f _ _ w'' (by have := cntH_set hl N hiN; omega) (by omega) (inv.set hi hiN) ?_ (hI2.congr (fun j hj => ?_) (fun _ _ => rfl))
        · intro j hj hlj j' hj'
          by_cases e : j = i
          · subst e
            exact getD_set_true (hDi j' hj').2
          · rw [getD_set_ne false (Ne.symm e)] at hlj
            exact getD_set_true (hk j hj hlj j' hj')
        · show (if j = i then true else listed.getD j false) = _
          by_cases e : j = i
          · subst e
            have h2 : j < listed.size := by rw [inv.size, List.size_toArray]; omega
            simp [h2]
          · rw [if_neg e, getD_set_ne false (Ne.symm e)]) hF
    have hwa : Region.wanted o (yielded LL.toArray (putsH xs L 0 a).tmps) = Region.wanted o (yielded L.toArray (putsH xs L 0 a).tmps) := by
      rw [wanted_take (k := N), hL]
      have := List.all_eq_true.1 hops o (List.mem_of_getElem? hol)
      revert this
      cases o.guard with
      | none => exact fun h => h
      | some jb => exact fun h => h
    unfold wpOpIn
    simp only [ho]
    rw [hwa]
    split
    · rename_i hw
      rw [if_pos hw] at hst
      exact Oper.wpIn_mono (fun a'' w'' ⟨v, e, h⟩ => by rw [e]; exact h) hst
    · rename_i hw
      rw [if_neg hw] at hst
      exact hst
/-- What must be seen of a region of which the beginning alone is told. -/
def shapeT (d : Bool) (LL : List Oper) (N : Nat) (D : Nat → List Nat) : Bool := guardsB N (LL.take N) && (if d then (Region.sinkB .any LL.toArray N && decide (N < LL.length)) && Region.chainB .any LL.toArray N && backB .any LL.toArray N && backB .any LL.toArray 0 && slotsB (LL.take N) && depsB .any LL.toArray N D else shapeB false (LL.take N) D)
theorem reStart {w : World} (OW : Hid (OwnE R base t.L0 w)) (Le : Envs → Ents) (hLe : ∀ η, (List.range t.m).map (fun p => t.at η p L.length) = (Le η).map some) :
    (∀ xs w', InvR L a t R base (fun _ => true) xs w' → ∃ η, (∀ i, i < L.length → t.Is η i (xs i)) ∧ OwnE R base (Le η) w') ∧ InvR L a t R base (fun _ => false) (firstX L a) w ∧ putsH (firstX L a) L 0 a = a := by
  refine ⟨?_, ?_, putsH_first _ 0 a fun i o d ho hd => by
    unfold firstX
    rw [Nat.zero_add, ho, Option.bind_some, hd]⟩
  · intro xs w' ⟨η, c, h1, _, h3⟩
    refine ⟨η, fun i hi => h1 i hi rfl, ?_⟩
    have hl : (Le η).length = t.m := by
      have := congrArg List.length (hLe η)
      simpa using this.symm
    have hat : ∀ p, p < t.m → t.at η p L.length = (Le η)[p]? := by
      intro p hp
      have := congrArg (fun l => l[p]?) (hLe η)
      simp only [List.getElem?_map, List.getElem?_range hp, Option.map_some] at this
      cases hq : (Le η)[p]? with
      | none => rw [hq] at this; cases this
      | some x => rw [hq] at this; simpa using this
    exact ⟨c, by rw [hl]; exact h3.congr hat⟩
  · have hc0 : ∀ (wr : Nat → Wr) (p N : Nat), contAt t.L0 wr (fun _ => false) p N = t.L0[p]? := by
      intro wr p N
      induction N with
      | zero => rfl
      | succ N ih => rw [contAt_skip (.inl rfl), ih]
    obtain ⟨c, hO⟩ := OW.out
    refine ⟨fun _ => Env.zero, fun p => if p < t.L0.length then c p else [], fun i _ hs => absurd hs Bool.false_ne_true, fun _ _ _ => rfl, ?_⟩
    have e : (fun p => contAt t.L0 (t.wr fun _ => Env.zero) (fun _ => false) p L.length) = fun p => t.L0[p]? := by funext p; exact hc0 _ _ _
    rw [e]
    have key : ∀ p, ((p < t.L0.length) ∧ (if p < t.L0.length then c p else []) = c p) ∨ (¬ p < t.L0.length ∧ (if p < t.L0.length then c p else []) = []) := fun p => by
      by_cases h : p < t.L0.length
      · exact .inl ⟨h, if_pos h⟩
      · exact .inr ⟨h, if_neg h⟩
    refine ⟨fun p _ x hx => ?_, fun p _ hx => ?_, fun p _ z hz => ?_, fun p _ => ?_, fun p q _ _ hne z hz u hu => ?_, fun p _ z hz => ?_, hO.os, hO.tape, hO.output, hO.size, hO.far⟩
    · rcases key p with ⟨h1, h2⟩ | ⟨h1, h2⟩
      · rw [h2]; exact hO.sat p h1 x hx
      · exact absurd (List.getElem?_eq_some_iff.1 hx).1 h1
    · rcases key p with ⟨h1, h2⟩ | ⟨h1, h2⟩
      · rw [h2]; exact hO.nil p h1 hx
      · exact h2
    · rcases key p with ⟨h1, h2⟩ | ⟨h1, h2⟩
      · rw [h2] at hz; exact hO.obj p h1 z hz
      · rw [h2] at hz; simp at hz
    · rcases key p with ⟨h1, h2⟩ | ⟨h1, h2⟩
      · rw [h2]; exact hO.inn p h1
      · rw [h2]; exact List.Pairwise.nil
    · rcases key p with ⟨h1, h2⟩ | ⟨h1, h2⟩
      · rw [h2] at hz
        rcases key q with ⟨h3, h4⟩ | ⟨h3, h4⟩
        · rw [h4] at hu; exact hO.nd p q h1 h3 hne z hz u hu
        · rw [h4] at hu; simp at hu
      · rw [h2] at hz; simp at hz
    · rcases key p with ⟨h1, h2⟩ | ⟨h1, h2⟩
      · rw [h2] at hz; exact hO.lo p h1 z hz
      · rw [h2] at hz; simp at hz
end
end Go.Proofs.Ytdglhppcfdpcaaa.E
namespace Go.Proofs.Ytdglhppcfdpcaaa.E
open Go Go.RowKit Go.Shelf
set_option linter.unusedVariables false
section
variable {F : Fence} {n : Nat} {P : Program} {R : List Nat} {base : World} {Q : Exit → Act → World → Prop} {S : List It} {sz : Nat} {es : Fe} {L : Ents} {Ds : List Nat}
def hsP (N : Nat) (S : List It) (a : Sl) (L0 : Ents) (hs : Envs → List (Nat × Pre P)) (η : Envs) : List (Hint P) := genH ((opsS S).take N) a (depR (drS S) ((opsS S).take N)) η ((opsS S).take N) (hs η) 0 [] (fun p => L0[p]?) L0.length
def tP (N : Nat) (S : List It) (a : Sl) (L0 : Ents) (m : Nat) (hs : Envs → List (Nat × Pre P)) : Told := toldE ((opsS S).take N) a (depR (drS S) ((opsS S).take N)) (cdsL ((opsS S).take N) []) L0 m (hsP N S a L0 hs)
theorem rpre [hF : LiftF F] (hm : P.follows .mixedOrders = true) (N : Nat) (hs : Envs → List (Nat × Pre P)) (nw : Envs → Fe) (dr : List Nat) (Le : Envs → Ents → Ents)
    (hk : ∀ η b W, Fr ⟨sz, nw η ++ dropL dr es⟩ Ds b → OwnE R base (Le η L ++ Ds.map mk) W → wpListIn F n P (opsS S).toArray (runS F n P Q (tlS S)) ((opsS S).drop N) b W)
    (he : ∀ η, ((isR S, true), (allE ((opsS S).take N) ⟨sz, es⟩ (tP N S ⟨sz, es⟩ L (mR Le L) hs) η 0 ((opsS S).take N) (hsP N S ⟨sz, es⟩ L hs η)).map Eqn.lhs, shapeT (drS S) (opsS S) N (fun k => (depR (drS S) ((opsS S).take N)).getD k []), (List.range (mR Le L)).map (fun p => (tP N S ⟨sz, es⟩ L (mR Le L) hs).at η p ((opsS S).take N).length), (nw η).map (fun x => tellR ((opsS S).take N) ⟨sz, es⟩ (tP N S ⟨sz, es⟩ L (mR Le L) hs) η x.1), freshR ((opsS S).take N) es (nw η) dr) =
      ((true, true), (allE ((opsS S).take N) ⟨sz, es⟩ (tP N S ⟨sz, es⟩ L (mR Le L) hs) η 0 ((opsS S).take N) (hsP N S ⟨sz, es⟩ L hs η)).map Eqn.rhs, true, (Le η L).map some, (nw η).map (fun x => some x.2), true)) : Go F n P R base Q S ⟨sz, es⟩ L Ds := by
  have h0 := congrArg (fun x => x.1.1) (he fun _ => Env.zero)
  have h1 := fun η => congrArg (fun x => x.2.1) (he η)
  have h2 := congrArg (fun x => x.2.2.1) (he fun _ => Env.zero)
  have h4 := fun η => congrArg (fun x => x.2.2.2.1) (he η)
  have h5 := fun η => congrArg (fun x => x.2.2.2.2.1) (he η)
  have h6 := fun η => congrArg (fun x => x.2.2.2.2.2) (he η)
  simp only at h0 h1 h2 h4 h5 h6
  obtain ⟨id, d, hS, hd⟩ := isR_spec h0
  subst hd
  refine ⟨fun b W hb hO => runS_nf 1000 S ?_⟩
  rw [show nfS 1000 S = _ from hS]
  show (Code.region id (opsS S).toArray (drS S)).wpIn F n P (runS F n P Q (tlS S)) b W
  obtain ⟨R1, OC, OW⟩ := hO.seg
  obtain ⟨LP, hL⟩ : ∃ LP, (opsS S).take N = LP := ⟨_, rfl⟩
  unfold tP hsP at h1 h4 h5
  unfold shapeT at h2
  obtain ⟨d, hdr⟩ : ∃ d, drS S = d := ⟨_, rfl⟩
  rw [hL] at h1 h2 h4 h5 h6
  rw [hdr] at h1 h2 h4 h5 ⊢
  rw [Bool.and_eq_true] at h2
  have hk1 := reOk_of (F := F) (n := n) (Q := runS F n P Q (tlS S)) hb h1
  obtain ⟨s1, s2, s3⟩ := reStart (a := b) (t := toldE LP ⟨sz, es⟩ (depR d LP) (cdsL LP []) L (mR Le L) _) (R := R1) (base := W) OW (fun η => Le η L) h4
  have hend : ∀ xs w', InvR LP b (toldE LP ⟨sz, es⟩ (depR d LP) (cdsL LP []) L (mR Le L) _) R1 W (fun _ => true) xs w' → wpListIn F n P (opsS S).toArray (runS F n P Q (tlS S)) ((opsS S).drop N) (putsH xs LP 0 b) w' := fun xs w' hI => by
    obtain ⟨η, hx, hO2⟩ := s1 xs w' hI
    exact hk η _ _ (hb.region hx (h5 η) (h6 η)) (OC.out.whole hO2)
  cases d with
  | false =>
    have h3 := h2.2
    unfold shapeB at h3
    simp only [Bool.false_eq_true, if_false, Bool.and_eq_true] at h3
    refine wpIn_region_lit ?_
    have hh := wpListIn_reT (LL := opsS S) (N := N) hL h2.1 hk1 hF.free h3.1 (fun k hk j hj => by simpa using List.all_eq_true.1 (List.all_eq_true.1 h3.2 k (List.mem_range.2 hk)) j hj) hend LP.length 0 (firstX LP b) W (by omega) (s2.congr (fun i _ => by simp) (fun _ _ => rfl))
    rw [s3, List.drop_zero, ← hL, List.take_append_drop] at hh
    exact hh
  | true =>
    have h3 := h2.2
    simp only [if_true, Bool.and_eq_true, decide_eq_true_eq] at h3
    obtain ⟨⟨⟨⟨⟨⟨q1, q2⟩, q3⟩, q4⟩, q5⟩, q6⟩, q7⟩ := h3
    refine wpIn_region_any hm ?_
    have hle : ∀ k, cntH (Array.replicate (opsS S).length false) k ≤ k := by
      intro k
      induction k with
      | zero => exact Nat.le_refl _
      | succ k ih => unfold cntH; split <;> omega
    have hh := wpAnyIn_reT (LL := opsS S) (N := N) hL h2.1 q2 q1 hk1 hF.free q3 q4 q5 q6 q7 hend _ (opsS S).toArray.size (Array.replicate (opsS S).length false) (firstX LP b) W.drew rfl (by rw [List.size_toArray]; have := hle N; omega)
      ⟨by simp, fun j oj _ hl e _ _ => (by rw [getD_replicate_false] at hl; exact Bool.noConfusion hl), fun t _ htt => (by rw [List.size_toArray] at htt; simp [htt])⟩ (fun i _ hl => (by rw [getD_replicate_false] at hl; exact Bool.noConfusion hl))
      (s2.drew.congr (fun i _ => (getD_replicate_false _ _).symm) (fun _ _ => rfl))
    rw [s3] at hh
    simpa using hh
/-- The operations behind a yield: the slots told behind them, the equations that they ask for. -/
def grdV (LL : List Oper) (e : Fe) (o : Oper) : Bool := match o.guard with
  | none => true
  | some (j, g) => (match ((LL[j]?).bind (·.dst)).bind (lk e) with
    | some (.bool c) => c == g
    | _ => false)
def knV (e : Fe) : Operand → Bool
  | .tmp i => (lk e i).isSome
  | _ => true
def stepV (P : Program) (sz : Nat) (e : Fe) (o : Oper) : Value × List Eqn := match o.op with
  | .pick c x y => (match (⟨sz, e⟩ : Sl).ev c with
    | .bool b => ((⟨sz, e⟩ : Sl).ev (match b with | true => x | false => y), [sB (knV e c && knV e (match b with | true => x | false => y))])
    | _ => (undef, [sB false]))
  | _ => (match opds o.op with
    | some l => (runV P o (⟨sz, e⟩ : Sl).ev, [sB (noDefer o && l.all (knV e)), sE (fun w => (execOp (⟨sz, e⟩ : Sl).ev o).run P w) (fun w => .ok (.value (runV P o (⟨sz, e⟩ : Sl).ev)) w)])
    | none => (undef, [sB false]))
def seqV (P : Program) (LL : List Oper) (sz : Nat) : List Oper → Fe → Fe × List Eqn
  | [], e => (e, [])
  | o :: os, e => match o.dst with
    | some d => ((seqV P LL sz os ((d, (stepV P sz e o).1) :: e)).1, sB (grdV LL e o) :: sB (Nat.blt d sz) :: ((stepV P sz e o).2 ++ (seqV P LL sz os ((d, (stepV P sz e o).1) :: e)).2))
    | none => ([], [sB false])
theorem Fr.put {b : Act} (hb : Fr ⟨sz, es⟩ Ds b) {d : Nat} (hd : d < sz) (v : Value) : Fr ⟨sz, (d, v) :: es⟩ Ds (b.put (some d) v) := by
  refine ⟨(put_size _ _ _).trans hb.size, fun i u h => ?_, (put_defers _ _ _).trans hb.defers⟩
  have hsz : b.tmps.size = sz := hb.size
  show (b.tmps.setIfInBounds d v).getD i undef = u
  unfold lk at h
  split at h
  · rename_i hq
    cases h
    rw [Nat.eq_of_beq_eq_true hq] at hd ⊢
    simp [hsz, hd]
  · rename_i hq
    have hne : d ≠ i := fun e => by rw [e, Nat.beq_refl] at hq; cases hq
    have := hb.get i u h
    simp only [Array.getD_eq_getD_getElem?] at this ⊢
    rw [Array.getElem?_setIfInBounds, if_neg hne]
    exact this
theorem knV_ev {b : Act} (hb : Fr ⟨sz, es⟩ Ds b) {x : Operand} (h : knV es x = true) : b.eval x = (⟨sz, es⟩ : Sl).ev x := hb.ev fun i hi => by subst hi; exact h
theorem stepV_ok [hF : LiftF F] {b : Act} {W : World} {o : Oper} {K : Act → World → Prop} {Q' : Exit → Act → World → Prop} (hb : Fr ⟨sz, es⟩ Ds b) (he : ∀ q ∈ (stepV P sz es o).2, q.2.1 = q.2.2) (hK : K (b.put o.dst (stepV P sz es o).1) W) : o.wpIn F n P b W K Q' := by
  refine Oper.wpIn_mono (fun a'' w'' ⟨v, e, h⟩ => by rw [e]; exact h) (wp_val (K := fun v w => K (b.put o.dst v) w) (v := (stepV P sz es o).1) hF.free (w' := W) ?_ ?_ hK)
  · unfold stepV at he
    split at he
    · rename_i c x y hop
      unfold noDefer; rw [hop]
    · split at he
      · simp only [List.mem_cons, List.not_mem_nil, or_false, forall_eq_or_imp, forall_eq, sB, Bool.and_eq_true] at he
        exact he.1.1
      · exact (sB_false he).elim
  · unfold stepV at he ⊢
    split at he
    · rename_i c x y hop
      simp only at he ⊢
      split at he
      · rename_i E hE
        simp only [List.mem_cons, List.not_mem_nil, or_false, forall_eq, sB, Bool.and_eq_true] at he
        have hc := (knV_ev hb he.1).trans hE
        cases E with
        | true => exact run_pickO hop hc (knV_ev hb he.2)
        | false => exact run_pickO hop hc (knV_ev hb he.2)
      · exact (sB_false he).elim
    · split at he
      · rename_i l hl
        simp only [List.mem_cons, List.not_mem_nil, or_false, forall_eq_or_imp, forall_eq, sE, sB, Bool.and_eq_true] at he
        rw [execOp_congr hl fun x hx => knV_ev hb (List.all_eq_true.1 he.1.2 x hx)]
        exact congrFun he.2 W
      · exact (sB_false he).elim
theorem wantedV {LL : List Oper} {o : Oper} {b : Act} (hb : Fr ⟨sz, es⟩ Ds b) (h1 : grdV LL es o = true) : Region.wanted o (yielded LL.toArray b.tmps) = true := by
  unfold grdV at h1
  unfold Region.wanted
  cases hg : o.guard with
  | none => rfl
  | some jb =>
    obtain ⟨j, g⟩ := jb
    rw [hg] at h1
    simp only at h1 ⊢
    split at h1
    · rename_i c hc
      obtain ⟨q, hq, hl⟩ := Option.bind_eq_some_iff.1 hc
      have hv := hb.get q _ hl
      have hlt : q < b.tmps.size := by
        rcases Nat.lt_or_ge q b.tmps.size with h | h
        · exact h
        · rw [Array.getD_eq_getD_getElem?, Array.getElem?_eq_none h] at hv; cases hv
      have hy : yielded LL.toArray b.tmps j = some c := by
        unfold yielded
        rw [List.getElem?_toArray, hq]
        simp only [Option.bind_some]
        rw [Array.getD_eq_getD_getElem?, Array.getElem?_eq_getElem hlt] at hv
        rw [Array.getElem?_eq_getElem hlt]
        simp only [Option.getD_some] at hv
        rw [hv]
      rw [hy, eq_of_beq h1]
      simp
    · cases h1
theorem seqV_ok [hF : LiftF F] {LL : List Oper} {W : World} {Q' : Exit → Act → World → Prop} : ∀ {os : List Oper} {es : Fe} {b : Act}, Fr ⟨sz, es⟩ Ds b → (∀ q ∈ (seqV P LL sz os es).2, q.2.1 = q.2.2) → (∀ b', Fr ⟨sz, (seqV P LL sz os es).1⟩ Ds b' → Q' .normal b' W) → wpListIn F n P LL.toArray Q' os b W
  | [], es, b, hb, _, hk => hk b hb
  | o :: os, es, b, hb, he, hk => by
    unfold seqV at he hk
    cases hd : o.dst with
    | none => rw [hd] at he; exact (sB_false he).elim
    | some d =>
      rw [hd] at he hk
      simp only [List.mem_cons, List.mem_append, forall_eq_or_imp, sB] at he
      obtain ⟨h1, h2, h3⟩ := he
      have hw := wantedV (LL := LL) hb h1
      unfold wpListIn
      rw [if_pos hw]
      refine stepV_ok (F := F) hb (fun q hq => h3 q (.inl hq)) ?_
      rw [hd]
      exact seqV_ok (hb.put (Nat.blt_eq ▸ h2) _) (fun q hq => h3 q (.inr hq)) hk
/-- Nothing but a return is left. -/
def retB : Nat → List It → Fe → Bool
  | 0, _, _ => false
  | k + 1, S, e => match nf S with
    | .c .ret :: _ => true
    | .c (.cond c x y) :: S' => knV e c && (match (⟨0, e⟩ : Sl).ev c with
      | .bool b => retB k (.c (match b with | true => x | false => y) :: S') e
      | _ => false)
    | _ => false
theorem retB_ok : ∀ (k : Nat) {S : List It} {b : Act} {W : World}, retB k S es = true → Fr ⟨sz, es⟩ Ds b → Q .ret b W → runS F n P Q S .normal b W
  | 0, _, _, _, h, _, _ => by cases h
  | k + 1, S, b, W, h, hb, hQ => by
    unfold retB at h
    refine runS_nf 1000 S ?_
    split at h
    · rename_i S' e
      rw [show nfS 1000 S = _ from e]
      exact wpIn_ret (runS_ret hQ)
    · rename_i c x y S' e
      rw [show nfS 1000 S = _ from e]
      rw [Bool.and_eq_true] at h
      obtain ⟨h1, h2⟩ := h
      split at h2
      · rename_i E hE
        have hc := (knV_ev hb h1).trans hE
        have h3 := retB_ok k h2 hb hQ
        cases E with
        | true => exact wpIn_cond hc h3
        | false => exact wpIn_cond hc h3
      · cases h2
    · cases h
/-- What an iterator owes. -/
def itQ (P : Program) (fn : Func) (J Jx : Nat → (Nat → Prop) → World → Prop) (KO : Objs) (W0 : World) (N : Nat) : Exit → Act → World → Prop :=
  bodyPostM Fence.wide 5 P fn fun e W' => (∃ v, e = .returned v) ∧ ((∃ L, ItS J KO W0 L N W') ∨ ∃ i, i < N ∧ ∃ O', Jx (i + 1) O' W')
/-- What yields are promised. -/
def YldE {α : Type} (P : Program) (l : Nat) (J Jx : Nat → (Nat → Prop) → World → Prop) (KO : Objs) (W0 : World) (encs : α → Array Value) (xs : List α) : Prop :=
  ∀ (L : Objs) (j : Nat) (x : α) (wr : World), xs[j]? = some x → ItS J KO W0 L j wr → YieldAt Fence.wide 4 P l (encs x) wr fun e W' => (e = .returned (.bool true) ∧ ItS J KO W0 L (j + 1) W') ∨ (e = .returned (.bool false) ∧ ∃ O', Jx (j + 1) O' W')
section
variable {α : Type} {gf : Nat} {fn : Func} {lb : Array Value} {encs : α → Array Value} {xs : List α} {KO : List Objs} {J Jx : Nat → (Nat → Prop) → World → Prop} {W0 : World} {l j : Nat}
/-- An iterator's contract, from its body. -/
theorem gi (hf : P.funcs[gf]? = some fn) (h : ∀ l J Jx W0 R, StayO J → YldE P l J Jx KO.flatten W0 encs xs → Hid (ItC J KO W0 0 R W0) → Go Fence.wide 5 P R W0 (itQ P fn J Jx KO.flatten W0 xs.length) [.c (bodyC fn)] ⟨fn.ntmps, argE 0 (.func (.yield l) #[] #[] :: lb.toList)⟩ (KO.map .c) [])
    (hc : (fn.body.isSome, Nat.ble (lb.size + 1) fn.ntmps) = (true, true) := by kernel_rfl) : IterE 5 P gf lb encs xs KO.flatten := by
  refine iterE_of fun l J Jx W hJ hY h0 => ?_
  obtain ⟨R, hI, hO⟩ := ItL.start (ItL.zero h0.out)
  obtain ⟨c, hb⟩ := Option.isSome_iff_exists.1 (congrArg (·.1) hc)
  have hn : lb.size + 1 ≤ fn.ntmps := Nat.le_of_ble_eq_true (congrArg (·.2) hc)
  refine callsIn_of_wp_marks hf hb trivial ?_ rfl
  have hz : (#[Value.func (.yield l) #[] #[]] ++ lb).size = lb.size + 1 := by simp; omega
  have h1 := (h l J Jx W R hJ hY.out hI).out { tmps := (#[Value.func (.yield l) #[] #[]] ++ lb) ++ Array.replicate (fn.ntmps - (#[Value.func (.yield l) #[] #[]] ++ lb).size) undef, defers := [] } W ⟨by rw [Array.size_append, hz, Array.size_replicate]; show _ = fn.ntmps; omega, fun i v hv => ?_, rfl⟩ (by simpa using hO.out)
  · rw [show bodyC fn = c by unfold bodyC; rw [hb]; rfl] at h1
    exact h1
  · obtain ⟨_, h2⟩ := argE_get hv
    rw [Nat.sub_zero] at h2
    have h3 : i < lb.size + 1 := by have := (List.getElem?_eq_some_iff.1 h2).1; simpa using this
    have h4 : (#[Value.func (.yield l) #[] #[]] ++ lb)[i]? = some v := by rw [← Array.getElem?_toList]; simpa using h2
    rw [Array.getD_eq_getD_getElem?, Array.getElem?_append_left (by rw [hz]; exact h3), h4]
    rfl
/-- The same, where the blocks XO are given. -/
theorem gG {XO : Objs} (hf : P.funcs[gf]? = some fn) (h : ∀ l J Jx W0 R, StayO J → YldE P l J Jx KO.flatten W0 encs xs → Hid (ItC J KO W0 0 R W0) → Go Fence.wide 5 P R W0 (itQ P fn J Jx KO.flatten W0 xs.length) [.c (bodyC fn)] ⟨fn.ntmps, argE 0 (.func (.yield l) #[] #[] :: lb.toList)⟩ (KO.map .c ++ [Ent.c XO]) [])
    (hc : (fn.body.isSome, Nat.ble (lb.size + 1) fn.ntmps) = (true, true) := by kernel_rfl) : IterG 5 P gf lb encs xs KO.flatten XO := by
  refine iterG_of fun l J Jx W hJ hY h0 => ?_
  obtain ⟨R, hI, hO⟩ := ItL.start (LE := [Ent.c XO]) ⟨[XO], ⟨rfl, trivial⟩, by simpa using h0.out⟩
  obtain ⟨c, hb⟩ := Option.isSome_iff_exists.1 (congrArg (·.1) hc)
  have hn : lb.size + 1 ≤ fn.ntmps := Nat.le_of_ble_eq_true (congrArg (·.2) hc)
  refine callsIn_of_wp_marks hf hb trivial ?_ rfl
  have hz : (#[Value.func (.yield l) #[] #[]] ++ lb).size = lb.size + 1 := by simp; omega
  have h1 := (h l J Jx W R hJ hY.out hI).out { tmps := (#[Value.func (.yield l) #[] #[]] ++ lb) ++ Array.replicate (fn.ntmps - (#[Value.func (.yield l) #[] #[]] ++ lb).size) undef, defers := [] } W ⟨by rw [Array.size_append, hz, Array.size_replicate]; show _ = fn.ntmps; omega, fun i v hv => ?_, rfl⟩ (by simpa using hO.out)
  · rw [show bodyC fn = c by unfold bodyC; rw [hb]; rfl] at h1
    exact h1
  · obtain ⟨_, h2⟩ := argE_get hv
    rw [Nat.sub_zero] at h2
    have h3 : i < lb.size + 1 := by have := (List.getElem?_eq_some_iff.1 h2).1; simpa using this
    have h4 : (#[Value.func (.yield l) #[] #[]] ++ lb)[i]? = some v := by rw [← Array.getElem?_toList]; simpa using h2
    rw [Array.getD_eq_getD_getElem?, Array.getElem?_append_left (by rw [hz]; exact h3), h4]
    rfl
theorem own0 (W : World) : OwnE (ids ([] : List Objs).flatten) W [] W := OwnE.start (cs := []) trivial ⟨fun _ h => by simp at h, List.Pairwise.nil⟩
theorem itLeaf {N : Nat} {b : Act} {W : World} {KO : Objs} (hres : fn.results.toList = []) (hd : b.defers = []) (h : (∃ L, ItS J KO W0 L N W) ∨ ∃ i, i < N ∧ ∃ O', Jx (i + 1) O' W) : itQ P fn J Jx KO W0 N .ret b W := by
  show LeavesInM Fence.wide 5 P fn b.tmps _ b.defers .returning W
  rw [hd]
  exact leavesE (Lib.hid (own0 W)) [] (by rw [hres]; rfl) fun _ => ⟨⟨_, rfl⟩, h⟩
/-- The yield's operation. -/
def yOp (S : List It) (N : Nat) : Option Oper := (opsS S)[N]?
def yDst (S : List It) (N : Nat) : Nat := match yOp S N with | some o => o.dst.getD 0 | none => 0
def yChk (S : List It) (N l : Nat) (sz : Nat) (e : Fe) (vs : List Value) : Bool × Option (List Value) × Option Value := match yOp S N with
  | some o => (match o.op with
    | .call ⟨.value x, ags, _⟩ => (grdV (opsS S) e o && knV e x && ags.toList.all (knV e) && o.dst.isSome && Nat.blt (o.dst.getD 0) sz, some (ags.toList.map (⟨sz, e⟩ : Sl).ev), some ((⟨sz, e⟩ : Sl).ev x))
    | _ => (false, none, none))
  | none => (false, none, none)
/-- A yield: what lies ahead of it in its region is told as a region is; xs[j]? is yielded. -/
theorem iy [hR : Rt Q (itQ P fn J Jx KO.flatten W0 xs.length)] (hJ : StayO J) (hY : YldE P l J Jx KO.flatten W0 encs xs) (hI : Hid (ItC J KO W0 j R base)) (N : Nat) (hs : Envs → List (Nat × Pre P)) (nw : Envs → Fe) (dr : List Nat) (Le : Envs → Ents → Ents) (LE : Envs → Ents) (ps : List Nat) {x : α} (hx : xs[j]? = some x)
    (hk : ∀ η R' W', Hid (ItC J KO W0 (j + 1) R' W') → Go Fence.wide 5 P R' W' Q (tlS S) ⟨sz, (seqV P (opsS S) sz ((opsS S).drop (N + 1)) ((yDst S N, .bool true) :: (nw η ++ dropL dr es))).1⟩ (KO.map .c ++ LE η) [])
    (he : ∀ η, ((isR S, true), (allE ((opsS S).take N) ⟨sz, es⟩ (tP N S ⟨sz, es⟩ L (mR Le L) hs) η 0 ((opsS S).take N) (hsP N S ⟨sz, es⟩ L hs η)).map Eqn.lhs, shapeT (drS S) (opsS S) N (fun k => (depR (drS S) ((opsS S).take N)).getD k []), (List.range (mR Le L)).map (fun p => (tP N S ⟨sz, es⟩ L (mR Le L) hs).at η p ((opsS S).take N).length), (nw η).map (fun x => tellR ((opsS S).take N) ⟨sz, es⟩ (tP N S ⟨sz, es⟩ L (mR Le L) hs) η x.1), freshR ((opsS S).take N) es (nw η) dr) =
      ((true, true), (allE ((opsS S).take N) ⟨sz, es⟩ (tP N S ⟨sz, es⟩ L (mR Le L) hs) η 0 ((opsS S).take N) (hsP N S ⟨sz, es⟩ L hs η)).map Eqn.rhs, true, (Le η L).map some, (nw η).map (fun x => some x.2), true) := by intro _; kernel_rfl)
    (hy : ∀ η, (yChk S N l sz (nw η ++ dropL dr es) (encs x).toList, (seqV P (opsS S) sz ((opsS S).drop (N + 1)) ((yDst S N, .bool true) :: (nw η ++ dropL dr es))).2.map Eqn.lhs, (seqV P (opsS S) sz ((opsS S).drop (N + 1)) ((yDst S N, .bool false) :: (nw η ++ dropL dr es))).2.map Eqn.lhs, retB 10 (tlS S) (seqV P (opsS S) sz ((opsS S).drop (N + 1)) ((yDst S N, .bool false) :: (nw η ++ dropL dr es))).1) =
      ((true, some (encs x).toList, some (.func (.yield l) #[] #[])), (seqV P (opsS S) sz ((opsS S).drop (N + 1)) ((yDst S N, .bool true) :: (nw η ++ dropL dr es))).2.map Eqn.rhs, (seqV P (opsS S) sz ((opsS S).drop (N + 1)) ((yDst S N, .bool false) :: (nw η ++ dropL dr es))).2.map Eqn.rhs, true) := by intro _; kernel_rfl)
    (hp : ∀ η, (nodupB (ps.map fun p => [p]).flatten, (ps.map fun p => [p]).map fun g => g.map fun p => (Le η L)[p]?) = (true, ((KO.map Ent.c ++ LE η).map fun x => [x]).map fun N => N.map some) := by intro _; kernel_rfl) (hres : fn.results.toList = [] := by kernel_rfl) (hm : P.follows .mixedOrders = true := by kernel_rfl) : Go Fence.wide 5 P R base Q S ⟨sz, es⟩ L [] := by
  refine rpre hm N hs nw dr Le (fun η b W hb hO => ?_) he
  have hy1 := congrArg (fun x => x.1) (hy η)
  have hy2 := congrArg (fun x => x.2.1) (hy η)
  have hy3 := congrArg (fun x => x.2.2.1) (hy η)
  have hy4 := congrArg (fun x => x.2.2.2) (hy η)
  simp only at hy1 hy2 hy3 hy4
  have hO' : OwnE R base (KO.map .c ++ LE η) W := OwnE.pick (by simpa using hO) ps _ (hp η)
  obtain ⟨ds, hds, hIS⟩ := ItC.step hI hJ hO'
  obtain ⟨fn', tmps', asg, bod, hrun, hround⟩ := hY ds.flatten j x W hx hIS
  unfold yChk at hy1
  split at hy1
  · rename_i o ho
    split at hy1
    · rename_i xo ags ats hop
      simp only [Prod.mk.injEq, Bool.and_eq_true, Option.some.injEq] at hy1
      obtain ⟨⟨⟨⟨⟨g1, g2⟩, g3⟩, g4⟩, g5⟩, g6, g7⟩ := hy1
      obtain ⟨d, hd⟩ := Option.isSome_iff_exists.1 g4
      have hyd : yDst S N = d := by unfold yDst; rw [ho]; simp [hd]
      have hdr : (opsS S).drop N = o :: (opsS S).drop (N + 1) := by
        obtain ⟨hlt, e⟩ := List.getElem?_eq_some_iff.1 (show (opsS S)[N]? = some o from ho)
        rw [List.drop_eq_getElem_cons hlt, e]
      rw [hdr]
      have hw : Region.wanted o (yielded (opsS S).toArray b.tmps) = true := wantedV hb g1
      unfold wpListIn
      rw [if_pos hw]
      have hxo : b.eval xo = .func (.yield l) #[] #[] := (knV_ev hb g2).trans g7
      have hag : ags.map b.eval = encs x := by
        apply Array.toList_inj.1
        rw [Array.toList_map, ← g6]
        exact List.map_congr_left fun q hq => knV_ev hb (List.all_eq_true.1 g3 q hq)
      have hrun2 : (execOp b.eval o).run P W = .ok (.round l fn' tmps' asg bod) W := by
        unfold execOp
        simp only [hop, resolve, hxo, Deferred.ofValue, Sem.run_bind, Sem.run_pure, Result.andThen_ok, invoke]
        rw [hag]
        simpa using hrun
      unfold Oper.wpIn
      refine ⟨fun _ _ => trivial, ?_⟩
      rw [Oper.semAt_plain Fence.wide _ o (fun c hc => by rw [hop] at hc; cases hc), hrun2, Oper.uponIn_round]
      refine ⟨fun _ => by omega, hround.mono ?_⟩
      rintro e W' (⟨rfl, h3⟩ | ⟨rfl, O', h3⟩)
      · rw [hyd] at hy2
        obtain ⟨R', hI', hO3⟩ := ItL.start (J := J) (Os := KO) (W0 := W0) (LE := LE η) (j := j + 1) ⟨ds, hds, h3⟩
        have h4 := hk η R' W' hI'
        rw [hyd] at h4
        show wpListIn Fence.wide 5 P (opsS S).toArray _ ((opsS S).drop (N + 1)) (b.put o.dst (.bool true)) W'
        rw [hd]
        have h5 : d < sz := by rw [hd] at g5; exact Nat.blt_eq ▸ g5
        exact seqV_ok (hb.put h5 _) (Eqn.all hy2) fun b' hb' => h4.out b' W' hb' (by simpa using hO3.out)
      · rw [hyd] at hy3 hy4
        show wpListIn Fence.wide 5 P (opsS S).toArray _ ((opsS S).drop (N + 1)) (b.put o.dst (.bool false)) W'
        rw [hd]
        have h5 : d < sz := by rw [hd] at g5; exact Nat.blt_eq ▸ g5
        exact seqV_ok (hb.put h5 _) (Eqn.all hy3) fun b' hb' => retB_ok 10 hy4 hb' (hR.out b' W' (itLeaf hres (by rw [hb'.defers]; rfl) (.inr ⟨j, (List.getElem?_eq_some_iff.1 hx).1, O', h3⟩)))
    · simp at hy1
  · simp at hy1
/-- An iterator's end: all was yielded. -/
theorem il [hR : Rt Q (itQ P fn J Jx KO.flatten W0 xs.length)] (hJ : StayO J) (hI : Hid (ItC J KO W0 j R base)) (hj : j = xs.length) (LE : Ents) (ps : List Nat)
    (hp : (nodupB (ps.map fun p => [p]).flatten, (ps.map fun p => [p]).map fun g => g.map fun p => L[p]?) = (true, ((KO.map Ent.c ++ LE).map fun x => [x]).map fun N => N.map some) := by kernel_rfl) (hres : fn.results.toList = [] := by kernel_rfl) (hS : isRet S = true := by kernel_rfl) : Go Fence.wide 5 P R base Q S ⟨sz, es⟩ L [] := by
  refine ⟨fun b W hb hO => runS_nf 1000 S ?_⟩
  have hO' : OwnE R base (KO.map .c ++ LE) W := OwnE.pick (by simpa using hO) ps _ hp
  have h := ItL.leaf (ItC.step hI hJ hO')
  unfold isRet at hS
  split at hS
  · rename_i S' e
    rw [show nfS 1000 S = _ from e]
    exact wpIn_ret (runS_ret (hR.out b W (itLeaf hres (by rw [hb.defers]; rfl) (.inl (by rw [← hj]; exact h)))))
  · cases hS
theorem ilN (hJ : StayO J) (hI : Hid (ItC J KO W0 j R base)) (hj : j = xs.length) (LE : Ents) (ps : List Nat)
    (hp : (nodupB (ps.map fun p => [p]).flatten, (ps.map fun p => [p]).map fun g => g.map fun p => L[p]?) = (true, ((KO.map Ent.c ++ LE).map fun x => [x]).map fun N => N.map some) := by kernel_rfl) (hres : fn.results.toList = [] := by kernel_rfl) (hS : (nf S).isEmpty = true := by kernel_rfl) : Go Fence.wide 5 P R base (itQ P fn J Jx KO.flatten W0 xs.length) S ⟨sz, es⟩ L [] := by
  refine ⟨fun b W hb hO => runS_nf 1000 S ?_⟩
  have hO' : OwnE R base (KO.map .c ++ LE) W := OwnE.pick (by simpa using hO) ps _ hp
  have h := ItL.leaf (ItC.step hI hJ hO')
  rw [show nfS 1000 S = [] from List.isEmpty_iff.1 hS]
  exact itLeaf hres (by rw [hb.defers]; rfl) (.inl (by rw [← hj]; exact h))
end
/-! Loops in iterators. -/
section
variable {J : Nat → (Nat → Prop) → World → Prop} {KO : List Objs} {W0 : World}
def lpJ (J : Nat → (Nat → Prop) → World → Prop) (KO : List Objs) (W0 : World) (I : Nat → Prop) (e : Nat → Fe) (LI : Nat → Ents) (m c : Nat → Nat) (sz : Nat) (st : Fe) (i : Nat) (b : Act) (W : World) : Prop := ∃ (k : Nat) (R : List Nat) (base : World), I k ∧ Hid (ItC J KO W0 (c k) R base) ∧ m k < i ∧ Fr ⟨sz, e k ++ st⟩ [] b ∧ OwnE R base (LI k) W
def lpQI (P : Program) (J : Nat → (Nat → Prop) → World → Prop) (KO : List Objs) (W0 : World) (Q : Exit → Act → World → Prop) (S : List It) (I : Nat → Prop) (e : Nat → Fe) (LI : Nat → Ents) (m c : Nat → Nat) (sz : Nat) (st : Fe) (i : Nat) : Exit → Act → World → Prop
  | .normal, b, W => lpJ J KO W0 I e LI m c sz st i b W
  | x, b, W => runS Fence.wide 5 P Q S x b W
theorem lqI (I : Nat → Prop) (e : Nat → Fe) (LI : Nat → Ents → Ents) (m c : Nat → Nat) (k0 : Nat) (h0 : I k0) (hI : Hid (ItC J KO W0 (c k0) R base)) (he : ((e k0).map fun x => lk es x.1) = (e k0).map fun x => some x.2) (hL : L = LI k0 L)
    (hr : ∀ (k : Nat) (R' : List Nat) (base' : World), I k → Hid (ItC J KO W0 (c k) R' base') → Go Fence.wide 5 P R' base' (lpQI P J KO W0 Q (tlS S) I e (fun k => LI k L) m c sz (stayE S es) (m k)) [.c (bdS S)] ⟨sz, e k ++ stayE S es⟩ (LI k L) []) (hS : isL S = true := by kernel_rfl) : Go Fence.wide 5 P R base Q S ⟨sz, es⟩ L [] := by
  classical
  refine ⟨fun b W hb hO => runS_nf 1000 S ?_⟩
  rw [show nfS 1000 S = _ from isL_spec hS]
  show (Code.loop (bdS S)).wpIn Fence.wide 5 P (runS Fence.wide 5 P Q (tlS S)) b W
  let J0 : Nat → Act → World → Prop := lpJ J KO W0 I e (fun k => LI k L) m c sz (stayE S es)
  let μ : Act → World → Nat := fun b W => if h : ∃ j, J0 j b W then Classical.choose (least h) else 0
  have hμ : ∀ b W, (∃ j, J0 j b W) → J0 (μ b W) b W ∧ ∀ i, i < μ b W → ¬ J0 i b W := by
    intro b W h
    have e : μ b W = Classical.choose (least h) := dif_pos h
    rw [e]
    exact Classical.choose_spec (least h)
  refine wpIn_loop (fun b W => ∃ j, J0 j b W) μ ⟨m k0 + 1, k0, R, base, h0, hI, Nat.lt_succ_self _, Fr.stay (a := ⟨sz, es⟩) hb he, by have h := hO; rw [hL] at h; simpa using h⟩ fun b W hJ => ?_
  obtain ⟨k, R', base', hk, hC, hm, hf, hO⟩ := (hμ b W hJ).1
  refine wpIn_mono (show (bdS S).wpIn Fence.wide 5 P _ b W from (hr k R' base' hk hC).out b W hf (by simpa using hO)) fun e b' W' he => ?_
  cases e with
  | normal =>
    have hJ : J0 (m k) b' W' := he
    exact ⟨⟨_, hJ⟩, Nat.lt_of_le_of_lt (Nat.le_of_not_lt fun hl => (hμ b' W' ⟨_, hJ⟩).2 _ hl hJ) hm⟩
  | _ => exact he
theorem leI {I : Nat → Prop} {e : Nat → Fe} {LI : Nat → Ents} {m c : Nat → Nat} {S0 : List It} {sz0 : Nat} {st : Fe} {i : Nat} (k : Nat) (hI : I k) (hC : Hid (ItC J KO W0 (c k) R base)) (hm : m k < i) (he : ((e k ++ st).map fun x => lk es x.1) = (e k ++ st).map fun x => some x.2) (ps : List Nat) (hL : (nodupB (ps.map fun p => [p]).flatten, (ps.map fun p => [p]).map fun g => g.map fun p => L[p]?) = (true, ((LI k).map fun x => [x]).map fun N => N.map some)) (hS : (nf S).isEmpty = true := by kernel_rfl) (hz : sz = sz0 := by rfl) :
    Go Fence.wide 5 P R base (lpQI P J KO W0 Q S0 I e LI m c sz0 st i) S ⟨sz, es⟩ L [] := by
  subst hz
  refine ⟨fun b W hb hO => runS_nf 1000 S ?_⟩
  rw [show nfS 1000 S = [] from List.isEmpty_iff.1 hS]
  exact ⟨k, R, base, hI, hC, hm, Fr.told (a := ⟨sz, es⟩) hb he, OwnE.pick (by simpa using hO) ps _ hL⟩
theorem lxI {I : Nat → Prop} {e : Nat → Fe} {LI : Nat → Ents} {m c : Nat → Nat} {S0 : List It} {sz0 : Nat} {st : Fe} {i : Nat} (hk : Go Fence.wide 5 P R base Q ((outS S S0).getD []) ⟨sz, es⟩ L []) (hS : (outS S S0).isSome = true := by kernel_rfl) : Go Fence.wide 5 P R base (lpQI P J KO W0 Q S0 I e LI m c sz0 st i) S ⟨sz, es⟩ L [] := by
  obtain ⟨S1, h1⟩ := Option.isSome_iff_exists.1 hS
  rw [h1] at hk
  exact ⟨fun b W hb hO => out_spec h1 (hk.out b W hb hO) fun _ => rfl⟩
instance {P : Program} {J : Nat → (Nat → Prop) → World → Prop} {KO : List Objs} {W0 : World} {Q Q0 : Exit → Act → World → Prop} {I : Nat → Prop} {e : Nat → Fe} {LI : Nat → Ents} {m c : Nat → Nat} {S0 : List It} {sz0 : Nat} {st : Fe} {i : Nat} [h : Rt Q Q0] : Rt (lpQI P J KO W0 Q S0 I e LI m c sz0 st i) Q0 := ⟨fun b W hq => runS_ret (S := S0) (h.out b W hq)⟩
def lpJ1 (J : Nat → (Nat → Prop) → World → Prop) (KO : List Objs) (W0 : World) (I : Nat → Value → Prop) (e : Nat → Value → Fe) (LI : Nat → Value → Ents) (m c : Nat → Value → Nat) (sz : Nat) (st : Fe) (i : Nat) (b : Act) (W : World) : Prop := ∃ (k : Nat) (u : Value) (R : List Nat) (base : World), I k u ∧ Hid (ItC J KO W0 (c k u) R base) ∧ m k u < i ∧ Fr ⟨sz, e k u ++ st⟩ [] b ∧ OwnE R base (LI k u) W
def lpQI1 (P : Program) (J : Nat → (Nat → Prop) → World → Prop) (KO : List Objs) (W0 : World) (Q : Exit → Act → World → Prop) (S : List It) (I : Nat → Value → Prop) (e : Nat → Value → Fe) (LI : Nat → Value → Ents) (m c : Nat → Value → Nat) (sz : Nat) (st : Fe) (i : Nat) : Exit → Act → World → Prop
  | .normal, b, W => lpJ1 J KO W0 I e LI m c sz st i b W
  | x, b, W => runS Fence.wide 5 P Q S x b W
theorem lqI1 (I : Nat → Value → Prop) (e : Nat → Value → Fe) (LI : Nat → Value → Ents → Ents) (m c : Nat → Value → Nat) (k0 : Nat) (u0 : Value) (h0 : I k0 u0) (hI : Hid (ItC J KO W0 (c k0 u0) R base)) (he : ((e k0 u0).map fun x => lk es x.1) = (e k0 u0).map fun x => some x.2) (hL : L = LI k0 u0 L)
    (hr : ∀ (k : Nat) (u : Value) (R' : List Nat) (base' : World), I k u → Hid (ItC J KO W0 (c k u) R' base') → Go Fence.wide 5 P R' base' (lpQI1 P J KO W0 Q (tlS S) I e (fun k u => LI k u L) m c sz (stayE S es) (m k u)) [.c (bdS S)] ⟨sz, e k u ++ stayE S es⟩ (LI k u L) []) (hS : isL S = true := by kernel_rfl) : Go Fence.wide 5 P R base Q S ⟨sz, es⟩ L [] := by
  classical
  refine ⟨fun b W hb hO => runS_nf 1000 S ?_⟩
  rw [show nfS 1000 S = _ from isL_spec hS]
  show (Code.loop (bdS S)).wpIn Fence.wide 5 P (runS Fence.wide 5 P Q (tlS S)) b W
  let J0 : Nat → Act → World → Prop := lpJ1 J KO W0 I e (fun k u => LI k u L) m c sz (stayE S es)
  let μ : Act → World → Nat := fun b W => if h : ∃ j, J0 j b W then Classical.choose (least h) else 0
  have hμ : ∀ b W, (∃ j, J0 j b W) → J0 (μ b W) b W ∧ ∀ i, i < μ b W → ¬ J0 i b W := by
    intro b W h
    have e : μ b W = Classical.choose (least h) := dif_pos h
    rw [e]
    exact Classical.choose_spec (least h)
  refine wpIn_loop (fun b W => ∃ j, J0 j b W) μ ⟨m k0 u0 + 1, k0, u0, R, base, h0, hI, Nat.lt_succ_self _, Fr.stay (a := ⟨sz, es⟩) hb he, by have h := hO; rw [hL] at h; simpa using h⟩ fun b W hJ => ?_
  obtain ⟨k, u, R', base', hk, hC, hm, hf, hO⟩ := (hμ b W hJ).1
  refine wpIn_mono (show (bdS S).wpIn Fence.wide 5 P _ b W from (hr k u R' base' hk hC).out b W hf (by simpa using hO)) fun e b' W' he => ?_
  cases e with
  | normal =>
    have hJ : J0 (m k u) b' W' := he
    exact ⟨⟨_, hJ⟩, Nat.lt_of_le_of_lt (Nat.le_of_not_lt fun hl => (hμ b' W' ⟨_, hJ⟩).2 _ hl hJ) hm⟩
  | _ => exact he
theorem leI1 {I : Nat → Value → Prop} {e : Nat → Value → Fe} {LI : Nat → Value → Ents} {m c : Nat → Value → Nat} {S0 : List It} {sz0 : Nat} {st : Fe} {i : Nat} (k : Nat) (u : Value) (hI : I k u) (hC : Hid (ItC J KO W0 (c k u) R base)) (hm : m k u < i) (he : ((e k u ++ st).map fun x => lk es x.1) = (e k u ++ st).map fun x => some x.2) (ps : List Nat) (hL : (nodupB (ps.map fun p => [p]).flatten, (ps.map fun p => [p]).map fun g => g.map fun p => L[p]?) = (true, ((LI k u).map fun x => [x]).map fun N => N.map some)) (hS : (nf S).isEmpty = true := by kernel_rfl) (hz : sz = sz0 := by rfl) :
    Go Fence.wide 5 P R base (lpQI1 P J KO W0 Q S0 I e LI m c sz0 st i) S ⟨sz, es⟩ L [] := by
  subst hz
  refine ⟨fun b W hb hO => runS_nf 1000 S ?_⟩
  rw [show nfS 1000 S = [] from List.isEmpty_iff.1 hS]
  exact ⟨k, u, R, base, hI, hC, hm, Fr.told (a := ⟨sz, es⟩) hb he, OwnE.pick (by simpa using hO) ps _ hL⟩
theorem lxI1 {I : Nat → Value → Prop} {e : Nat → Value → Fe} {LI : Nat → Value → Ents} {m c : Nat → Value → Nat} {S0 : List It} {sz0 : Nat} {st : Fe} {i : Nat} (hk : Go Fence.wide 5 P R base Q ((outS S S0).getD []) ⟨sz, es⟩ L []) (hS : (outS S S0).isSome = true := by kernel_rfl) : Go Fence.wide 5 P R base (lpQI1 P J KO W0 Q S0 I e LI m c sz0 st i) S ⟨sz, es⟩ L [] := by
  obtain ⟨S1, h1⟩ := Option.isSome_iff_exists.1 hS
  rw [h1] at hk
  exact ⟨fun b W hb hO => out_spec h1 (hk.out b W hb hO) fun _ => rfl⟩
instance {P : Program} {J : Nat → (Nat → Prop) → World → Prop} {KO : List Objs} {W0 : World} {Q Q0 : Exit → Act → World → Prop} {I : Nat → Value → Prop} {e : Nat → Value → Fe} {LI : Nat → Value → Ents} {m c : Nat → Value → Nat} {S0 : List It} {sz0 : Nat} {st : Fe} {i : Nat} [h : Rt Q Q0] : Rt (lpQI1 P J KO W0 Q S0 I e LI m c sz0 st i) Q0 := ⟨fun b W hq => runS_ret (S := S0) (h.out b W hq)⟩
end
end
end Go.Proofs.Ytdglhppcfdpcaaa.E
