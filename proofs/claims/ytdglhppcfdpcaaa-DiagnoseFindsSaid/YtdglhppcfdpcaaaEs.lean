/- Iterators, told by entries. No program in sight. -/
import Derived.Test.YtdglhppcfdpcaaaEeE
namespace Go.Proofs.Ytdglhppcfdpcaaa.E
open Go Go.RowKit Go.Shelf

theorem holds_at {L : Ents} (ps : List Nat) {Os : List Objs} (he : ps.map (fun p => L[p]?) = Os.map fun o => some (.c o)) : Holds Os.flatten L := by
  intro x hx
  obtain ⟨o, ho, hxo⟩ := List.mem_flatten.1 hx
  have h1 : some (Ent.c o) ∈ ps.map (fun p => L[p]?) := by rw [he]; exact List.mem_map.2 ⟨o, ho, rfl⟩
  obtain ⟨p, _, hp⟩ := List.mem_map.1 h1
  exact ⟨o, List.mem_of_getElem? hp, hxo⟩
theorem satL_cO : ∀ Os : List Objs, SatL (Os.map .c) Os
  | [] => trivial
  | _ :: Os => ⟨rfl, satL_cO Os⟩
/-- A contract's entries, told as they stand. -/
theorem atC {Q : Objs → Prop} {bs : Objs} {L L' : Ents} (hx : Q bs) (h : ∀ cs, SatL L' cs → SatL L cs) : ∀ cs, SatL (.c bs :: L') cs → SatL (.p Q :: L) cs
  | [], hs => hs.elim
  | d :: cs, hs => ⟨by rw [show d = bs from hs.1]; exact hx, h cs hs.2⟩
theorem atS {x : Ent} {L L' : Ents} (h : ∀ cs, SatL L' cs → SatL L cs) : ∀ cs, SatL (x :: L') cs → SatL (x :: L) cs
  | [], hs => hs.elim
  | _ :: cs, hs => ⟨hs.1, h cs hs.2⟩
theorem Con.v {P : Program} {f : FuncId} {args : Array Value} {rd : Ents} {O : List Nat} {wt : Env → Ents} {v v' : Env → Value} (h : Con P f args rd O wt v) (e : ∀ E, v E = v' E) : Con P f args rd O wt v' := by
  rwa [show v' = v from funext fun E => (e E).symm]
section
variable {R : List Nat} {base W W' : World} {Os : List Objs}
theorem OwnE.ndC (h : OwnE R base (Os.map .c) W) : Os.flatten.Pairwise fun x y => x.1 ≠ y.1 := by
  obtain ⟨cs, hs, hO⟩ := h.conc
  rw [satL_cE hs] at hO
  exact hO.nd
variable {J : Nat → (Nat → Prop) → World → Prop} {W0 wr : World} {LE : Ents} {j : Nat}
/-- An iterator at work: what it reads, and what it has made, stands in the list of its entries. -/
structure ItC (J : Nat → (Nat → Prop) → World → Prop) (Os : List Objs) (W0 : World) (j : Nat) (R : List Nat) (base : World) : Prop where
  ex : ∃ L, ItS J Os.flatten W0 L j base ∧ R = (Os.flatten ++ L).map (·.1)
def ItL (J : Nat → (Nat → Prop) → World → Prop) (Os : List Objs) (W0 : World) (LE : Ents) (j : Nat) (wr : World) : Prop := ∃ ds, SatL LE ds ∧ ItS J Os.flatten W0 ds.flatten j wr
theorem ItC.step (h : Hid (ItC J Os W0 j R base)) (hJ : StayO J) (hO : OwnE R base (Os.map .c ++ LE) W') : ItL J Os W0 LE j W' := by
  obtain ⟨L, h1, rfl⟩ := h.out.ex
  exact h1.stepE hJ (fun ds hd => by rw [satL_cE hd]) hO
theorem ItL.start (h : ItL J Os W0 LE j wr) : ∃ R, Hid (ItC J Os W0 j R wr) ∧ Hid (OwnE R wr (Os.map .c ++ LE) wr) := by
  obtain ⟨ds, hs, hI⟩ := h
  refine ⟨_, Lib.hid ⟨_, hI, rfl⟩, Lib.hid ?_⟩
  have h1 := OwnE.start (w := wr) (satL_app (satL_cO Os) hs) (by rw [List.flatten_append]; exact hI.has)
  rw [List.flatten_append] at h1
  exact h1
theorem ItL.zero (h : ItS J Os.flatten W0 [] 0 W0) : ItL J Os W0 [] 0 W0 := ⟨[], trivial, h⟩
theorem ItL.leaf (h : ItL J Os W0 LE j wr) : ∃ L, ItS J Os.flatten W0 L j wr := by
  obtain ⟨ds, _, hI⟩ := h
  exact ⟨_, hI⟩
theorem ItL.count {i : Nat} (h : ItL J Os W0 LE j wr) (e : j = i) : ItL J Os W0 LE i wr := by rwa [← e]
end
/-- What a guarded operation gives where its guard is told to hold. -/
def GdE (t : Told) (l : Nat) (η : Envs) (ys : Nat → Value) : Prop := ∀ i, (Nat.blt i l && (t.cds i).all fun c => litB c.2 (t.vs η c.1)) = true → ys i = t.vs η i
theorem litB_spec {b : Bool} {v : Value} (h : litB b v = true) : v = .bool b := by
  unfold litB at h
  split at h
  · rw [eq_of_beq h]
  · cases h
section
variable {F : Fence} {n : Nat} {P : Program} {L : List Oper} {Q : Exit → Act → World → Prop} {a : Act} {R : List Nat} {base : World}
theorem wpIn_region_eG [hF : LiftF F] {LL : List Oper} {id : Nat} {w : World} {L0 : Ents} (N m : Nat) (hs : Envs → List (Hint P)) (Le : Envs → Ents → Ents) (OW : Hid (OwnE R base L0 w))
    (he : ∀ η, ((allE (LL.take N) a (toldE (LL.take N) a (depR false (LL.take N)) (cdsL (LL.take N) []) L0 m hs) η 0 (LL.take N) (hs η)).map Eqn.lhs, shapeB false (LL.take N) (fun k => (depR false (LL.take N)).getD k []) && guardsB N (LL.take N), (List.range m).map (fun p => (toldE (LL.take N) a (depR false (LL.take N)) (cdsL (LL.take N) []) L0 m hs).at η p (LL.take N).length)) =
      ((allE (LL.take N) a (toldE (LL.take N) a (depR false (LL.take N)) (cdsL (LL.take N) []) L0 m hs) η 0 (LL.take N) (hs η)).map Eqn.rhs, true, (Le η L0).map some))
    (hend : ∀ (η : Envs) (ys : Nat → Value) (w' : World), GdE (toldE (LL.take N) a (depR false (LL.take N)) (cdsL (LL.take N) []) L0 m hs) (LL.take N).length η ys → Hid (OwnE R base (Le η L0) w') → wpListIn F n P LL.toArray Q (LL.drop N) (putE (LL.take N) (hs η) 0 η ys a) w') : (Code.region id LL.toArray false).wpIn F n P Q a w := by
  obtain ⟨L, hL⟩ : ∃ L, LL.take N = L := ⟨_, rfl⟩
  rw [hL] at he hend
  have h1 := fun η => congrArg (·.1) (he η)
  have h2 : (shapeB false L (fun k => (depR false L).getD k []) && guardsB N L) = true := congrArg (fun x => x.2.1) (he fun _ => Env.zero)
  have h4 := fun η => congrArg (fun x => x.2.2) (he η)
  simp only at h1 h4
  rw [Bool.and_eq_true] at h2
  have hk := reOk_of (F := F) (n := n) (Q := Q) h1
  have hsl : slotsB L = true := by
    have := h2.1
    unfold shapeB at this
    simp only [Bool.and_eq_true] at this
    exact this.1
  have hD : ∀ k, k < L.length → ∀ j ∈ (depR false L).getD k [], j < k := by
    have := h2.1
    unfold shapeB at this
    simp only [Bool.false_eq_true, if_false, Bool.and_eq_true] at this
    intro k hk j hj
    have h5 := List.all_eq_true.1 (List.all_eq_true.1 this.2 k (List.mem_range.2 hk)) j hj
    simpa using h5
  obtain ⟨s1, s2, s3⟩ := reStart (a := a) (t := toldE L a (depR false L) (cdsL L []) L0 m hs) (R := R) (base := base) OW (fun η => Le η L0) h4
  refine wpIn_region_lit ?_
  have hh := wpListIn_reT (Q := Q) (LL := LL) (N := N) hL h2.2 hk hF.free hsl hD (R := R) (base := base) (fun xs w' hI => ?_) L.length 0 (firstX L a) w (by omega) (s2.congr (fun i _ => by simp) (fun _ _ => rfl))
  · rw [s3, List.drop_zero, ← hL, List.take_append_drop] at hh
    exact hh
  · obtain ⟨η, hx, hO⟩ := s1 xs w' hI
    have hh := hend η xs w' (fun i hi => by
      rw [Bool.and_eq_true] at hi
      have h9 : (toldE L a (depR false L) (cdsL L []) L0 m hs).Hold η i := fun c hc => litB_spec (List.all_eq_true.1 hi.2 c hc)
      rcases hx i (Nat.le_of_ble_eq_true hi.1) with ⟨_, h6⟩ | ⟨h6, _⟩
      · exact h6
      · exact absurd h9 h6) (Lib.hid hO)
    rw [putE_eq (f := xs) L (hs η) 0 a fun i o ho => by
      obtain ⟨h, e1, e2⟩ := allE_get (Eqn.all (h1 η)) i o ho
      refine ⟨h, e1, ?_⟩
      rw [Nat.zero_add] at e2 ⊢
      unfold vE
      cases hg : o.guard with
      | some _ => rfl
      | none =>
        have hil : i < L.length := (List.getElem?_eq_some_iff.1 ho).1
        have g1 : (toldE L a (depR false L) (cdsL L []) L0 m hs).cds i = [] := by
          have := (gen_ok fun e hm => e2 e (List.mem_append_left _ hm)).1
          unfold guardOk at this
          rw [hg] at this
          exact this
        have hh : (toldE L a (depR false L) (cdsL L []) L0 m hs).Hold η i := fun c hc => by rw [g1] at hc; simp at hc
        rcases hx i hil with ⟨_, h6⟩ | ⟨h6, _⟩
        · rw [h6]
          simp only [Told.vs, toldE, e1]
        · exact absurd hh h6] at hh
    exact hh
end
theorem iterE_of2 {α : Type} {n : Nat} {P : Program} {gf : Nat} {lb : Array Value} {encs : α → Array Value} {xs : List α} {KO : Objs}
    (h : ∀ (l : Nat) (J Jx : Nat → (Nat → Prop) → World → Prop) (W : World) (KX : Objs) (NX : Nat), StayO J → Hid (KX = KO) → Hid (NX = xs.length) →
      Hid (∀ (L : Objs) (j : Nat) (x : α) (wr : World), xs[j]? = some x → ItS J KO W L j wr → YieldAt Fence.wide (n - 1) P l (encs x) wr fun e W' => (e = .returned (.bool true) ∧ ItS J KO W L (j + 1) W') ∨ (e = .returned (.bool false) ∧ ∃ O', Jx (j + 1) O' W')) →
      Hid (ItS J KO W [] 0 W) → CallsIn Fence.wide n P gf (#[.func (.yield l) #[] #[]] ++ lb) W fun e W' => (∃ v, e = .returned v) ∧ ((∃ L, ItS J KX W L NX W') ∨ ∃ i, i < NX ∧ ∃ O', Jx (i + 1) O' W')) :
    IterE n P gf lb encs xs KO := iterE_of fun l J Jx W h1 h2 h3 => h l J Jx W KO xs.length h1 (Lib.hid rfl) (Lib.hid rfl) h2 h3
end Go.Proofs.Ytdglhppcfdpcaaa.E
