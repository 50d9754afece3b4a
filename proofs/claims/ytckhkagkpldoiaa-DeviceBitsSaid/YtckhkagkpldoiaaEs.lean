/- Iterators, told by entries. No program in sight. -/
import Derived.Test.YtckhkagkpldoiaaEeE
namespace Go.Proofs.Ytckhkagkpldoiaa.E
open Go Go.RowKit Go.Shelf

theorem holds_at {L : Ents} (ps : List Nat) {Os : List Objs} (he : ps.map (fun p => L[p]?) = Os.map fun o => some (.c o)) : Holds Os.flatten L := by
  intro x hx
  obtain ⟨o, ho, hxo⟩ := List.mem_flatten.1 hx
  have h1 : some (Ent.c o) ∈ ps.map (fun p => L[p]?) := by rw [he]; exact List.mem_map.2 ⟨o, ho, rfl⟩
  obtain ⟨p, _, hp⟩ := List.mem_map.1 h1
  exact ⟨o, List.mem_of_getElem? hp, hxo⟩
theorem satL_cO : ∀ Os : List Objs, SatL (Os.map .c) Os
  | [] => trivial
  | _ :: Os => ⟨rfl, satL_cO Os⟩
/-- A contract's entries, told as they stand. -/
theorem atC {Q : Objs → Prop} {bs : Objs} {L L' : Ents} (hx : Q bs) (h : ∀ cs, SatL L' cs → SatL L cs) : ∀ cs, SatL (.c bs :: L') cs → SatL (.p Q :: L) cs
  | [], hs => hs.elim
  | d :: cs, hs => ⟨by rw [show d = bs from hs.1]; exact hx, h cs hs.2⟩
theorem atS {x : Ent} {L L' : Ents} (h : ∀ cs, SatL L' cs → SatL L cs) : ∀ cs, SatL (x :: L') cs → SatL (x :: L) cs
  | [], hs => hs.elim
  | _ :: cs, hs => ⟨hs.1, h cs hs.2⟩
theorem Con.v {P : Program} {f : FuncId} {args : Array Value} {rd : Ents} {O : List Nat} {wt : Env → Ents} {v v' : Env → Value} (h : Con P f args rd O wt v) (e : ∀ E, v E = v' E) : Con P f args rd O wt v' := by
  rwa [show v' = v from funext fun E => (e E).symm]
section
variable {R : List Nat} {base W W' : World} {Os : List Objs}
theorem OwnE.ndC (h : OwnE R base (Os.map .c) W) : Os.flatten.Pairwise fun x y => x.1 ≠ y.1 := by
  obtain ⟨cs, hs, hO⟩ := h.conc
  rw [satL_cE hs] at hO
  exact hO.nd
variable {J : Nat → (Nat → Prop) → World → Prop} {W0 wr : World} {LE : Ents} {j : Nat}
/-- An iterator at work: what it reads, and what it has made, stands in the list of its entries. -/
structure ItC (J : Nat → (Nat → Prop) → World → Prop) (Os : List Objs) (W0 : World) (j : Nat) (R : List Nat) (base : World) : Prop where
  ex : ∃ L, ItS J Os.flatten W0 L j base ∧ R = (Os.flatten ++ L).map (·.1)
def ItL (J : Nat → (Nat → Prop) → World → Prop) (Os : List Objs) (W0 : World) (LE : Ents) (j : Nat) (wr : World) : Prop := ∃ ds, SatL LE ds ∧ ItS J Os.flatten W0 ds.flatten j wr
theorem ItC.step (h : Hid (ItC J Os W0 j R base)) (hJ : StayO J) (hO : OwnE R base (Os.map .c ++ LE) W') : ItL J Os W0 LE j W' := by
  obtain ⟨L, h1, rfl⟩ := h.out.ex
  exact h1.stepE hJ (fun ds hd => by rw [satL_cE hd]) hO
theorem ItL.start (h : ItL J Os W0 LE j wr) : ∃ R, Hid (ItC J Os W0 j R wr) ∧ Hid (OwnE R wr (Os.map .c ++ LE) wr) := by
  obtain ⟨ds, hs, hI⟩ := h
  refine ⟨_, Lib.hid ⟨_, hI, rfl⟩, Lib.hid ?_⟩
  have h1 := OwnE.start (w := wr) (satL_app (satL_cO Os) hs) (by rw [List.flatten_append]; exact hI.has)
  rw [List.flatten_append] at h1
  exact h1
theorem ItL.zero (h : ItS J Os.flatten W0 [] 0 W0) : ItL J Os W0 [] 0 W0 := ⟨[], trivial, h⟩
theorem ItL.leaf (h : ItL J Os W0 LE j wr) : ∃ L, ItS J Os.flatten W0 L j wr := by
  obtain ⟨ds, _, hI⟩ := h
  exact ⟨_, hI⟩
theorem ItL.count {i : Nat} (h : ItL J Os W0 LE j wr) (e : j = i) : ItL J Os W0 LE i wr := by rwa [← e]
end
section
variable {F : Fence} {n : Nat} {P : Program} {L : List Oper} {Q : Exit → Act → World → Prop} {a : Act} {R : List Nat} {base : World}
end
theorem iterE_of2 {α : Type} {n : Nat} {P : Program} {gf : Nat} {lb : Array Value} {encs : α → Array Value} {xs : List α} {KO : Objs}
    (h : ∀ (l : Nat) (J Jx : Nat → (Nat → Prop) → World → Prop) (W : World) (KX : Objs) (NX : Nat), StayO J → Hid (KX = KO) → Hid (NX = xs.length) →
      Hid (∀ (L : Objs) (j : Nat) (x : α) (wr : World), xs[j]? = some x → ItS J KO W L j wr → YieldAt Fence.wide (n - 1) P l (encs x) wr fun e W' => (e = .returned (.bool true) ∧ ItS J KO W L (j + 1) W') ∨ (e = .returned (.bool false) ∧ ∃ O', Jx (j + 1) O' W')) →
      Hid (ItS J KO W [] 0 W) → CallsIn Fence.wide n P gf (#[.func (.yield l) #[] #[]] ++ lb) W fun e W' => (∃ v, e = .returned v) ∧ ((∃ L, ItS J KX W L NX W') ∨ ∃ i, i < NX ∧ ∃ O', Jx (i + 1) O' W')) :
    IterE n P gf lb encs xs KO := iterE_of fun l J Jx W h1 h2 h3 => h l J Jx W KO xs.length h1 (Lib.hid rfl) (Lib.hid rfl) h2 h3
end Go.Proofs.Ytckhkagkpldoiaa.E
