/- Several texts in one: Gd Ge EfV. -/
import Derived.Test.YtdglhppcfdpcaaaEeA
import Derived.Test.YtdglhppcfdpcaaaOwX
import Derived.Lib.Hide
namespace Go.Proofs.Ytdglhppcfdpcaaa.E
open Go Go.RowKit Go.Shelf

/-- Slots that are told. -/
abbrev Fe := List (Nat × Value)
def lk : Fe → Nat → Option Value
  | [], _ => none
  | (j, v) :: r, i => match Nat.beq j i with
    | true => some v
    | false => lk r i
/-- A frame by its told slots; how many there are. -/
structure Sl where
  sz : Nat
  e : Fe
def Sl.ev (a : Sl) : Operand → Value
  | .tmp i => (lk a.e i).getD undef
  | .const v => v
  | .global g => .pointer (some ⟨g, 0, none⟩)
  | .func f => .func (.func f) #[] #[]
def Sl.kn (a : Sl) (i : Nat) : Bool := (lk a.e i).isSome
/-- What is told of a frame holds; the marks that it has to look at. -/
structure Fr (a : Sl) (Ds : List Nat) (b : Act) : Prop where
  size : b.tmps.size = a.sz
  get : ∀ i v, lk a.e i = some v → b.tmps.getD i undef = v
  defers : b.defers = Ds.map markD
theorem Fr.ev {a : Sl} {Ds : List Nat} {b : Act} (h : Fr a Ds b) : ∀ {x : Operand}, (∀ i, x = .tmp i → a.kn i = true) → b.eval x = a.ev x
  | .tmp i, hk => by
    have h1 := hk i rfl
    unfold Sl.kn at h1
    obtain ⟨v, hv⟩ := Option.isSome_iff_exists.1 h1
    show b.tmps.getD i undef = (lk a.e i).getD undef
    rw [h.get i v hv, hv]; rfl
  | .const _, _ => rfl
  | .global _, _ => rfl
  | .func _, _ => rfl

def vS (s : Sem Value) : Sem Next := do pure (.value (← s))
/-- The operands that an operation reads. -/
def opds : Op → Option (List Operand)
  | .move x => some [x]
  | .assign x => some [x]
  | .load _ x => some [x]
  | .box _ x => some [x]
  | .alloc _ => some []
  | .nilCheck x => some [x]
  | .unOp _ _ x => some [x]
  | .convert _ _ x => some [x]
  | .sliceToArrayPointer _ x => some [x]
  | .fieldAddr _ x _ => some [x]
  | .field _ x _ => some [x]
  | .extract x _ => some [x]
  | .binOp _ _ x y _ => some [x, y]
  | .indexAddr _ x y => some [x, y]
  | .index _ x y => some [x, y]
  | .lookup _ x y _ => some [x, y]
  | .store _ x y => some [x, y]
  | .makeSlice _ x y => some [x, y]
  | .mapUpdate _ x y z => some [x, y, z]
  | .build _ parts => some (parts.toList.map (·.2))
  | .buildSlice _ _ parts => some (parts.toList.map (·.2))
  | .slice _ x lo hi mx => some (x :: (lo.toList ++ hi.toList ++ mx.toList))
  | .makeFunc _ first captured => some (first.toList ++ captured.toList)
  | .makeMap _ r => some r.toList
  | .call c => match c.callee with | .builtin _ => some c.args.toList | _ => none
  | _ => none
theorem map_congrA {ρ ρ' : Operand → Value} {xs : Array Operand} (h : ∀ x ∈ xs.toList, ρ x = ρ' x) : xs.map ρ = xs.map ρ' := Array.map_congr_left fun x hx => h x (by simpa using hx)
theorem map_congrO {ρ ρ' : Operand → Value} {x : Option Operand} (h : ∀ y ∈ x.toList, ρ y = ρ' y) : x.map ρ = x.map ρ' := by cases x <;> simp_all
theorem map_congrP {ρ ρ' : Operand → Value} {xs : Array (Nat × Operand)} (h : ∀ x ∈ xs.toList.map (·.2), ρ x = ρ' x) : xs.map (fun (i, x) => (i, ρ x)) = xs.map (fun (i, x) => (i, ρ' x)) :=
  Array.map_congr_left fun x hx => by
    obtain ⟨i, x⟩ := x
    simp only
    rw [h x (List.mem_map.2 ⟨(i, x), by simpa using hx, rfl⟩)]
theorem execOp_congr {ρ ρ' : Operand → Value} {o : Oper} {l : List Operand} (h : opds o.op = some l) (hl : ∀ x ∈ l, ρ x = ρ' x) : execOp ρ o = execOp ρ' o := by
  unfold execOp
  cases hop : o.op <;> rw [hop] at h <;> simp only [opds, reduceCtorEq, Option.some.injEq] at h
  case call c =>
    cases hc : c.callee <;> rw [hc] at h <;> simp only [reduceCtorEq, Option.some.injEq] at h
    subst h
    simp only [resolve, hc, map_congrA hl]
  case build => subst h; simp only [map_congrP hl]
  case buildSlice => subst h; simp only [map_congrP hl]
  case makeFunc => subst h; simp only [map_congrA fun x hx => hl x (List.mem_append_left _ hx), map_congrA fun x hx => hl x (List.mem_append_right _ hx)]
  case makeMap => subst h; simp only [map_congrO hl]
  case slice =>
    subst h
    simp only [hl _ (List.mem_cons_self ..), map_congrO fun x hx => hl x (List.mem_cons_of_mem _ (List.mem_append_left _ (List.mem_append_left _ hx))), map_congrO fun x hx => hl x (List.mem_cons_of_mem _ (List.mem_append_left _ (List.mem_append_right _ hx))), map_congrO fun x hx => hl x (List.mem_cons_of_mem _ (List.mem_append_right _ hx))]
  all_goals (subst h; simp only [List.mem_cons, List.not_mem_nil, or_false, forall_eq_or_imp, forall_eq] at hl; simp only [hl])

abbrev Eqn := (α : Type) × (α × α)
def sE {α : Type} (a b : α) : Eqn := ⟨α, (a, b)⟩
def sB (b : Bool) : Eqn := ⟨Bool, (b, true)⟩
def Eqn.lhs (e : Eqn) : (α : Type) × α := ⟨e.1, e.2.1⟩
def Eqn.rhs (e : Eqn) : (α : Type) × α := ⟨e.1, e.2.2⟩
theorem Eqn.of {e : Eqn} (h : e.lhs = e.rhs) : e.2.1 = e.2.2 := by
  obtain ⟨α, x, y⟩ := e
  unfold Eqn.lhs Eqn.rhs at h
  simp only [Sigma.mk.injEq, heq_eq_eq, true_and] at h
  exact h
theorem Eqn.all {l : List Eqn} (h : l.map Eqn.lhs = l.map Eqn.rhs) : ∀ e ∈ l, e.2.1 = e.2.2 := by
  induction l with
  | nil => intro e he; simp at he
  | cons x r ih =>
    simp only [List.map_cons, List.cons.injEq] at h
    intro e he
    rcases List.mem_cons.1 he with rfl | he
    · exact Eqn.of h.1
    · exact ih h.2 e he
theorem sB_false (h : ∀ e ∈ [sB false], e.2.1 = e.2.2) : False := by
  have := h _ (List.mem_singleton.2 rfl)
  cases this

/-- The entries, one behind the other, as the lists of blocks have them. -/
def SatL : Ents → List Objs → Prop
  | [], [] => True
  | x :: xs, c :: cs => x.sat c ∧ SatL xs cs
  | _, _ => False
/-- A call's contract: rd: what is there; O: the places of rd that are other ones behind it; wt: what these are then, and what is new. -/
structure Con (P : Program) (f : FuncId) (args : Array Value) (rd : Ents) (O : List Nat) (wt : Env → Ents) (v : Env → Value) : Prop where
  ent : Enters P f
  out : ∀ (w : World) (cs : List Objs), SatL rd cs → Has cs.flatten w → Calls P f args w fun e w' => ∃ E ds, e = .returned (v E) ∧ SatL (wt E) ds ∧ Step (O.flatMap fun i => ids (cs.getD i [])) ds.flatten w w'
class LiftF (F : Fence) : Prop where
  free : Fence.free F
  lift : ∀ {n : Nat} {P : Program} {f : FuncId} {args : Array Value} {w : World} {R : Ending → World → Prop}, Calls P f args w R → CallsIn F n P f args w R
instance : LiftF Fence.wide := ⟨free_wide, callsIn_wide.2⟩
instance (l : Nat) : LiftF (Fence.wide.inRound l) := ⟨free_round l, fun h => CallsIn.inRound l (callsIn_wide.2 h)⟩

section
variable (P : Program)
/-- An operation that rests on its operands alone: its value, the equations that are asked for. -/
abbrev TD := Oper → (Operand → Value) → List Eqn
def TD.ok (d : TD) (val : Value) : Prop := ∀ (o : Oper) (ρ : Operand → Value), (∀ e ∈ d o ρ, e.2.1 = e.2.2) → ∀ w, (execOp ρ o).run P w = .ok (.value val) w
structure TH (val : Value) where
  d : TD
  h : TD.ok P d val
/-- An operation that reads memory, writes it, or makes some. -/
structure MD where
  rd : Wr
  wt : Env → Wr
  eqs : List Eqn
def MD.bad : MD := ⟨[], fun _ => [], [sB false]⟩
def MD.ok (val : Env → Value) (f : Oper → (Operand → Value) → Mem → MD) (ob : List Nat) : Prop := ∀ (o : Oper) (ρ : Operand → Value) (C : Mem), (∀ e ∈ (f o ρ C).eqs, e.2.1 = e.2.2) → ∀ (w : World) (c : Cnc), HasC (f o ρ C).rd c w →
  ∃ (E : Env) (z : Cnc) (w' : World), ((execOp ρ o).run P w = .ok (.value (val E)) w' ∨ ((execOp ρ o).run P w = .ok .skip w' ∧ val E = undef)) ∧ (∀ x ∈ (f o ρ C).wt E, x.2.sat (z x.1)) ∧ Step (ob.flatMap fun p => ids (c p)) (((f o ρ C).wt E).flatMap fun x => z x.1) w w'
structure MH (val : Env → Value) where
  ob : List Nat
  d : Oper → (Operand → Value) → Mem → MD
  h : MD.ok P val d ob
end
/-- What an operation's value, and what it does, rests on. -/
inductive Hint (P : Program) : Type 1
  | v (v : Value)
  | t {val : Value} (d : TH P val)
  | u {val : Value} (d : TD) (j : Nat) (E b : Bool) (h : E = b → TD.ok P d val)
  | k (v : Value)
  | d (v : Value)
  | m {val : Env → Value} (d : MH P val)
  | c {f : FuncId} {args : Array Value} {rd : Ents} {O : List Nat} {wt : Env → Ents} {v : Env → Value} (ps qs : List Nat) (h : Con P f args rd O wt v)
section
variable {P : Program}
def Hint.val : Hint P → Env → Value
  | .v x, _ | .k x, _ | .d x, _ => x
  | @Hint.t _ val _, _ => val
  | @Hint.u _ val _ _ _ _ _, _ => val
  | @Hint.m _ val _, E => val E
  | @Hint.c _ _ _ _ _ _ x _ _ _, E => x E
def Hint.rd : Hint P → Oper → (Operand → Value) → Mem → Wr
  | .m x, o, ρ, C => (x.d o ρ C).rd
  | @Hint.c _ _ _ rd _ _ _ ps _ _, _, _, _ => ps.zip rd
  | _, _, _, _ => []
def Hint.wt : Hint P → Oper → (Operand → Value) → Mem → Env → Wr
  | .m x, o, ρ, C, E => (x.d o ρ C).wt E
  | @Hint.c _ _ _ _ _ wt _ _ qs _, _, _, _, E => qs.zip (wt E)
  | _, _, _, _, _ => []
def Hint.ob : Hint P → List Nat
  | .m x => x.ob
  | @Hint.c _ _ _ _ O _ _ ps _ _ => O.map fun i => ps.getD i 0
  | _ => []
end
/-- What each operation waits for, all told. -/
def depL (N : Nat) : List Oper → List (List Nat) → List (List Nat)
  | [], acc => acc
  | o :: os, acc => depL N os (acc ++ [(o.after.toList.foldl (fun l e => if Region.binds .any e && Nat.blt e.on N then (e.on :: (acc.getD e.on [])).foldl (fun l j => if l.contains j then l else j :: l) l else l) [])])
def cdsL : List Oper → List (List (Nat × Bool)) → List (List (Nat × Bool))
  | [], acc => acc
  | o :: os, acc => cdsL os (acc ++ [match o.guard with | none => [] | some (j, b) => acc.getD j [] ++ [(j, b)]])
/-- What lies ahead of each operation: the values of those ahead of it, and the memory. -/
def rhoV (L : List Oper) (a : Sl) (Dk : List Nat) (vs : List Value) : Operand → Value
  | .tmp i => match whoPuts i L 0 with
    | some j => if Dk.contains j then vs.getD j undef else a.ev (.tmp i)
    | none => a.ev (.tmp i)
  | x => a.ev x
abbrev Ste := List Value × Mem
def stL {P : Program} (L : List Oper) (a : Sl) (DL : List (List Nat)) (η : Envs) : List Oper → List (Hint P) → Nat → Ste → List Ste
  | o :: os, h :: hs, k, s => s :: stL L a DL η os hs (k + 1) (s.1 ++ [h.val (η k)], updF s.2 (h.wt o (rhoV L a (DL.getD k []) s.1) s.2 (η k)))
  | _, _, _, _ => []
def atK {α : Type} {P : Program} (L : List Oper) (a : Sl) (DL : List (List Nat)) (L0 : Ents) (hs : Envs → List (Hint P)) (η : Envs) (k : Nat) (z : α) (f : Hint P → Oper → (Operand → Value) → Mem → α) : α :=
  match L[k]?, (hs η)[k]?, (stL L a DL η L (hs η) 0 ([], fun p => L0[p]?))[k]? with
  | some o, some h, some s => f h o (rhoV L a (DL.getD k []) s.1) s.2
  | _, _, _ => z
def toldE {P : Program} (L : List Oper) (a : Sl) (DL : List (List Nat)) (CL : List (List (Nat × Bool))) (L0 : Ents) (m : Nat) (hs : Envs → List (Hint P)) : Told where
  val η k := match (hs η)[k]? with | some h => h.val | none => fun _ => undef
  rd η k := atK L a DL L0 hs η k [] Hint.rd
  wt η k := atK L a DL L0 hs η k (fun _ => []) Hint.wt
  ob k := match (hs fun _ => Env.zero)[k]? with | some h => h.ob | none => []
  cds k := CL.getD k []
  D k := DL.getD k []
  L0 := L0
  m := m

section
variable (L : List Oper) (a : Sl) (t : Told) (η : Envs) (k : Nat)
def rhoR : Operand → Value
  | .tmp i => match whoPuts i L 0 with
    | some j => if (t.D k).contains j then t.vs η j else a.ev (.tmp i)
    | none => a.ev (.tmp i)
  | x => a.ev x
def okR (C : List (Nat × Bool)) : Operand → Bool
  | .tmp i => match whoPuts i L 0 with
    | some j => Nat.blt i a.sz && (if (t.D k).contains j then (t.cds j).all (C.contains ·) else (j == k || (t.D j).contains k) && a.kn i)
    | none => a.kn i
  | _ => true
def opOk (o : Oper) : Bool := noDefer o && match opds o.op with | some l => l.all (okR L a t k (t.cds k)) | none => false
def nodupB : List Nat → Bool
  | [] => true
  | x :: r => !r.contains x && nodupB r
def isB : Value → Bool
  | .bool _ => true
  | _ => false
def aggB (P : Program) (T : TypeId) : Bool := match P.underlying T with | some (.struct _) => true | some (.array _ _) => true | _ => false
def ptrV (g off : Nat) : Value := .pointer (some ⟨g, off, none⟩)
def andE : Bool → Bool → Value → Option Value
  | true, E, .bool X => some (.bool (E && X))
  | _, _, _ => none
def orE : Bool → Bool → Value → Option Value
  | true, E, .bool X => some (.bool (E || X))
  | _, _, _ => none
def pickE (c x y : Operand) : Option Value :=
  let C := match c with | .tmp i => (match whoPuts i L 0 with | some j => if (t.D k).contains j then some j else none | none => none) | _ => none
  let Cx := match C with | some j => t.cds k ++ [(j, true)] | none => t.cds k
  let Cy := match C with | some j => t.cds k ++ [(j, false)] | none => t.cds k
  match rhoR L a t η k c with
  | .bool E => match y with
    | .const (.bool false) => andE (okR L a t k Cx x) E (rhoR L a t η k x)
    | _ => match x with
      | .const (.bool true) => orE (okR L a t k Cy y) E (rhoR L a t η k y)
      | _ => none
  | _ => none
/-- What a call of a function value enters. -/
def clos : Value → List Value → Option (FuncId × List Value)
  | .func (.func f) first cap, vs => some (f, first.toList ++ vs ++ cap.toList)
  | _, _ => none
theorem clos_spec {v : Value} {vs : List Value} {f : FuncId} {args : List Value} (h : clos v vs = some (f, args)) : ∃ first cap, v = .func (.func f) first cap ∧ args = first.toList ++ vs ++ cap.toList := by
  unfold clos at h
  split at h
  · simp only [Option.some.injEq, Prod.mk.injEq] at h
    obtain ⟨rfl, rfl⟩ := h
    exact ⟨_, _, rfl, rfl⟩
  · cases h
/-- The equations of each kind. -/
def kindE {P : Program} (o : Oper) : Hint P → List Eqn
  | .v v => [sB (opOk L a t k o), sE (fun w => (execOp (rhoR L a t η k) o).run P w) (fun w => .ok (.value v) w)]
  | .t d => sB (opOk L a t k o) :: d.d o (rhoR L a t η k)
  | .u d j E b _ => sB (opOk L a t k o) :: sB ((t.cds k).contains (j, b)) :: sE (t.vs η j) (.bool E) :: d o (rhoR L a t η k)
  | .k v => match o.op with
    | .pick c x y => [sB (okR L a t k (t.cds k) c), sE (pickE L a t η k c x y) (some v)]
    | _ => [sB false]
  | .d _ => match (t.cds k).getLast? with
    | some (j, b) => [sE (t.vs η j) (.bool (!b))]
    | none => [sB false]
  | .m d => sB (opOk L a t k o) :: (d.d o (rhoR L a t η k) (fun p => t.at η p k)).eqs
  | @Hint.c _ f args rd _ wt _ ps qs _ => match o.op with
    | .call ⟨.value (.func f'), xs, _⟩ => [sE f' f, sB (xs.toList.all (okR L a t k (t.cds k))), sE (xs.toList.map (rhoR L a t η k)) args.toList, sE ps.length rd.length, sE (fun E => (wt E).length) (fun _ => qs.length), sB (nodupB qs)]
    | .call ⟨.value (.tmp i), xs, _⟩ => [sB (okR L a t k (t.cds k) (.tmp i)), sB (xs.toList.all (okR L a t k (t.cds k))), sE (clos (rhoR L a t η k (.tmp i)) (xs.toList.map (rhoR L a t η k))) (some (f, args.toList)), sE ps.length rd.length, sE (fun E => (wt E).length) (fun _ => qs.length), sB (nodupB qs)]
    | _ => [sB false]
/-- A guard that is told to hold. -/
def litB : Bool → Value → Bool
  | b, .bool E => E == b
  | _, _ => false
/-- The equations that each operation asks for. -/
def genE (o : Oper) : List Eqn :=
  [sE (t.cds k) (match o.guard with | none => [] | some (j, b) => t.cds j ++ [(j, b)]),
   sB (match o.guard with
    | none => true
    | some (j, _) => (t.D k).contains j && isB (t.vs η j) && (match (L.toArray[j]?).bind (·.dst) with | some d => (whoPuts d L 0 == some j) && Nat.blt d a.sz | none => false)),
   sB ((t.cds k).all fun c => (t.D k).contains c.1),
   sB ((t.cds k).isEmpty || (t.wr η k).isEmpty || (t.cds k).all fun c => litB c.2 (t.vs η c.1)),
   sB (((t.rd η k).map (·.1) ++ (t.wr η k).map (·.1)).all fun p => Nat.blt p t.m && (List.range L.length).all fun j => j == k || (look (t.wr η j) p).isNone || (Nat.blt j k && (t.D k).contains j) || (Nat.blt k j && (t.D j).contains k)),
   sB (nodupB ((t.rd η k).map (·.1))),
   sE ((t.rd η k).map fun x => t.at η x.1 k) ((t.rd η k).map fun x => some x.2),
   sB ((t.ob k).all fun p => (look (t.wr η k) p).isSome),
   sE (t.val (mask (t.D k) η) k) (t.val η k),
   sE (t.wt (mask (t.D k) η) k) (t.wt η k)]
/-- What was told is the hint's, of the operands and the memory that there are. -/
def hintE {P : Program} (o : Oper) (h : Hint P) : List Eqn :=
  [sE (t.val η k) h.val, sE (t.rd η k) (h.rd o (rhoR L a t η k) (fun p => t.at η p k)), sE (t.wt η k) (h.wt o (rhoR L a t η k) (fun p => t.at η p k)), sE (t.ob k) h.ob]
end
def allE {P : Program} (L : List Oper) (a : Sl) (t : Told) (η : Envs) (k : Nat) : List Oper → List (Hint P) → List Eqn
  | [], [] => []
  | o :: os, h :: hs => genE L a t η k o ++ (hintE L a t η k o h ++ kindE L a t η k o h) ++ allE L a t η (k + 1) os hs
  | _, _ => [sB false]
theorem allE_get {P : Program} {L : List Oper} {a : Sl} {t : Told} {η : Envs} : ∀ {k : Nat} {os : List Oper} {hs : List (Hint P)}, (∀ e ∈ allE L a t η k os hs, e.2.1 = e.2.2) → ∀ i o, os[i]? = some o → ∃ h, hs[i]? = some h ∧ ∀ e ∈ genE L a t η (k + i) o ++ (hintE L a t η (k + i) o h ++ kindE L a t η (k + i) o h), e.2.1 = e.2.2
  | _, [], _, _, i, o, ho => by simp at ho
  | k, p :: os, [], h, i, o, ho => by
    have := h (sB false) (by simp [allE])
    cases this
  | k, p :: os, g :: hs, h, 0, o, ho => by
    simp only [List.getElem?_cons_zero, Option.some.injEq] at ho
    subst ho
    exact ⟨g, rfl, fun e he => h e (by unfold allE; exact List.mem_append_left _ he)⟩
  | k, p :: os, g :: hs, h, i + 1, o, ho => by
    rw [List.getElem?_cons_succ] at ho
    have := allE_get (k := k + 1) (os := os) (hs := hs) (fun e he => h e (by unfold allE; exact List.mem_append_right _ he)) i o ho
    rwa [show k + 1 + i = k + (i + 1) by omega] at this
end Go.Proofs.Ytdglhppcfdpcaaa.E
namespace Go.Proofs.Ytdglhppcfdpcaaa.E
open Go Go.RowKit Go.Shelf

theorem whoPuts_dst : ∀ {t : Nat} {l : List Oper} {k i : Nat}, whoPuts t l k = some i → k ≤ i ∧ (l[i - k]?).bind (·.dst) = some t
  | _, [], _, _, h => by cases h
  | t, o :: os, k, i, h => by
    unfold whoPuts at h
    cases hr : whoPuts t os (k + 1) with
    | some j =>
      rw [hr] at h
      cases h
      obtain ⟨h1, h2⟩ := whoPuts_dst hr
      refine ⟨by omega, ?_⟩
      rw [show i - k = (i - (k + 1)) + 1 by omega, List.getElem?_cons_succ]
      exact h2
    | none =>
      rw [hr] at h
      simp only at h
      cases hd : o.dst with
      | none => rw [hd] at h; cases h
      | some d =>
        rw [hd] at h
        simp only at h
        by_cases e : d = t
        · subst e
          simp only [BEq.rfl, if_true, Option.some.injEq] at h
          subst h
          exact ⟨Nat.le_refl _, by simp [hd]⟩
        · rw [if_neg (by simpa using e)] at h
          cases h
theorem whoPuts_lt {t : Nat} {l : List Oper} {i : Nat} (h : whoPuts t l 0 = some i) : i < l.length := by
  obtain ⟨_, h2⟩ := whoPuts_dst h
  rw [Nat.sub_zero] at h2
  rcases Nat.lt_or_ge i l.length with h3 | h3
  · exact h3
  · rw [List.getElem?_eq_none h3] at h2; cases h2
theorem nodupB_spec : ∀ {l : List Nat}, nodupB l = true → l.Nodup
  | [], _ => List.nodup_nil
  | x :: r, h => by
    simp only [nodupB, Bool.and_eq_true, Bool.not_eq_true'] at h
    exact List.nodup_cons.2 ⟨by simpa using h.1, nodupB_spec h.2⟩
section
variable {F : Fence} {n : Nat} {P : Program} {L : List Oper} {Q : Exit → Act → World → Prop} {a : Sl} {b : Act} {Ds : List Nat} {t : Told} {η : Envs} {k : Nat} {o : Oper} {xs : Nat → Value} {C : List (Nat × Bool)}
/-- Operands are what was told. -/
theorem eval_rho (HB : Fr a Ds b) (hx : ∀ i ∈ t.D k, t.Is η i (xs i)) (hf : ∀ i, i < L.length → (i = k ∨ k ∈ t.D i) → xs i = firstX L b i) (hC : ∀ c ∈ C, t.vs η c.1 = .bool c.2) {x : Operand} (ho : okR L a t k C x = true) : (putsH xs L 0 b).eval x = rhoR L a t η k x := by
  cases x with
  | tmp i =>
    rw [putsH_eval]
    simp only [okR] at ho
    simp only [rhoR]
    cases hw : whoPuts i L 0 with
    | none =>
      rw [hw] at ho
      exact HB.ev (x := .tmp i) fun q hq => by cases hq; exact ho
    | some j =>
      rw [hw] at ho
      simp only [Bool.and_eq_true] at ho
      simp only
      rw [if_pos (by rw [HB.size]; exact Nat.blt_eq ▸ ho.1)]
      by_cases hd : (t.D k).contains j = true
      · rw [if_pos hd] at ho ⊢
        have hm : j ∈ t.D k := by simpa using hd
        have hh : t.Hold η j := fun c hc => hC c (by have := List.all_eq_true.1 ho.2 c hc; simpa using this)
        rcases hx j hm with ⟨_, h⟩ | ⟨h, _⟩
        · exact h
        · exact absurd hh h
      · rw [if_neg hd] at ho ⊢
        rw [Bool.and_eq_true] at ho
        have h2 : j = k ∨ k ∈ t.D j := by simpa using ho.2.1
        rw [hf j (whoPuts_lt hw) h2]
        unfold firstX
        have := (whoPuts_dst hw).2
        rw [Nat.sub_zero] at this
        rw [this]
        exact HB.ev (x := .tmp i) fun q hq => by cases hq; exact ho.2.2
  | _ => rfl
theorem wp_val (hF : Fence.free F) {b : Act} {w w' : World} {v : Value} {K : Value → World → Prop} (hnd : noDefer o = true) (hr : (execOp b.eval o).run P w = .ok (.value v) w') (hK : K v w') : o.wpIn F n P b w (fun a'' w'' => ∃ v, a'' = b.put o.dst v ∧ K v w'') Q := by
  unfold Oper.wpIn
  refine ⟨fun f _ => hF.2 f, ?_⟩
  rw [Oper.semAt_plain F _ o (noDefer_spec hnd), hr]
  exact ⟨v, rfl, hK⟩
theorem wp_skip (hF : Fence.free F) {b : Act} {w w' : World} {K : Value → World → Prop} (hnd : noDefer o = true) (hr : (execOp b.eval o).run P w = .ok .skip w') (hK : K undef w') : o.wpIn F n P b w (fun a'' w'' => ∃ v, a'' = b.put o.dst v ∧ K v w'') Q := by
  unfold Oper.wpIn
  refine ⟨fun f _ => hF.2 f, ?_⟩
  rw [Oper.semAt_plain F _ o (noDefer_spec hnd), hr]
  exact ⟨undef, rfl, hK⟩
theorem wp_call (hF : Fence.free F) {b : Act} {w : World} {K : Value → World → Prop} {f : FuncId} {ags : Array Operand} {ats : Array TypeId} {vs : Array Value} (ho : o.op = .call { callee := .value (.func f), args := ags, argTypes := ats }) (eg : Enters P f) (hv : ags.map b.eval = vs)
    (h : CallsIn F (n - 1) P f vs w fun e w'' => ∃ v, e = .returned v ∧ K v w'') : o.wpIn F n P b w (fun a'' w'' => ∃ v, a'' = b.put o.dst v ∧ K v w'') Q := by
  subst hv
  unfold Oper.wpIn
  refine ⟨fun f _ => hF.2 f, ?_⟩
  have hr : (execOp b.eval o).run P w = .ok (.enter f (ags.map b.eval)) w := by
    unfold execOp
    simp only [ho, resolve, show b.eval (.func f) = .func (.func f) #[] #[] from rfl, Deferred.ofValue, Sem.run_bind, Sem.run_pure, Result.andThen_ok, invoke]
    rw [eg]
    simp
  rw [Oper.semAt_plain F _ o (fun c hc => by rw [ho] at hc; cases hc), hr]
  refine ⟨fun hd => (by rw [hF.1] at hd; cases hd), h.mono ?_⟩
  rintro e w'' ⟨v, rfl, h3⟩
  exact ⟨v, rfl, h3⟩
theorem wp_callV (hF : Fence.free F) {b : Act} {w : World} {K : Value → World → Prop} {f : FuncId} {x : Operand} {ags : Array Operand} {ats : Array TypeId} {first cap vs : Array Value} (ho : o.op = .call { callee := .value x, args := ags, argTypes := ats }) (eg : Enters P f) (hx : b.eval x = .func (.func f) first cap) (hv : first ++ ags.map b.eval ++ cap = vs)
    (h : CallsIn F (n - 1) P f vs w fun e w'' => ∃ v, e = .returned v ∧ K v w'') : o.wpIn F n P b w (fun a'' w'' => ∃ v, a'' = b.put o.dst v ∧ K v w'') Q := by
  subst hv
  unfold Oper.wpIn
  refine ⟨fun f _ => hF.2 f, ?_⟩
  have hr : (execOp b.eval o).run P w = .ok (.enter f (first ++ ags.map b.eval ++ cap)) w := by
    unfold execOp
    simp only [ho, resolve, hx, Deferred.ofValue, Sem.run_bind, Sem.run_pure, Result.andThen_ok, invoke]
    rw [eg]
  rw [Oper.semAt_plain F _ o (fun c hc => by rw [ho] at hc; cases hc), hr]
  refine ⟨fun hd => (by rw [hF.1] at hd; cases hd), h.mono ?_⟩
  rintro e w'' ⟨v, rfl, h3⟩
  exact ⟨v, rfl, h3⟩
theorem Step.grow {O O' : List Nat} {N : Objs} {W W' : World} (h : Step O N W W') (hs : ∀ b ∈ O, b ∈ O') : Step O' N W W' :=
  ⟨h.os, h.tape, h.output, h.size, h.obj, fun x hx => (h.new x hx).imp (hs _) id, h.nd, fun b hb hn => h.far b hb fun hm => hn (hs b hm)⟩
theorem Step.refl (W : World) : Step [] [] W W := ⟨rfl, rfl, rfl, Nat.le_refl _, fun _ h => by simp at h, fun _ h => by simp at h, List.Pairwise.nil, fun _ _ _ => rfl⟩
theorem Step.below {W W' : World} (h : Below W.heap.size W W') : Step [] [] W W' := ⟨h.os, h.tape, h.output, h.size, fun _ h => by simp at h, fun _ h => by simp at h, List.Pairwise.nil, fun b hb _ => h.block b hb⟩
theorem Step.alloc (W : World) (o : Obj) : Step [] [(W.heap.size, o)] W (W.alloc o) :=
  have h := (Below.refl W.heap.size W).alloc (Nat.le_refl _) o
  ⟨h.os, h.tape, h.output, h.size, fun x hx => by obtain rfl := List.mem_singleton.1 hx; exact World.alloc_heap_new W o, fun x hx => by obtain rfl := List.mem_singleton.1 hx; exact .inr (Nat.le_refl _), List.pairwise_singleton _ _, fun b hb _ => h.block b hb⟩
theorem Step.put {W W' : World} {g : Nat} {o' : Obj} (hos : W'.os = W.os) (htp : W'.tape = W.tape) (hout : W'.output = W.output) (hsz : W'.heap.size = W.heap.size)
    (hg : W'.heap[g]? = some o') (hf : ∀ b, b ≠ g → W'.heap[b]? = W.heap[b]?) : Step [g] [(g, o')] W W' :=
  ⟨hos, htp, hout, Nat.le_of_eq hsz.symm, fun x hx => by obtain rfl := List.mem_singleton.1 hx; exact hg, fun x hx => by obtain rfl := List.mem_singleton.1 hx; exact .inl (List.mem_singleton.2 rfl), List.pairwise_singleton _ _, fun b _ hb => hf b fun e => hb (List.mem_singleton.2 e)⟩
theorem Step.setc {W : World} {g i : Nat} {t : TypeId} {cs : Array Value} (v : Value) (hb : W.heap[g]? = some (.cells cs t (0, 0))) : Step [g] [(g, .cells (cs.setIfInBounds i v) t (0, 0))] W (W.setCell ⟨g, i, none⟩ v) :=
  Step.put rfl rfl rfl (by simp [World.setCell]) (heap_setCell_same W g i cs t v hb) (fun b hb => heap_setCell_other W ⟨g, i, none⟩ b v hb)
theorem Step.setRow {W : World} {g : Nat} {t : TypeId} {cs : Array Value} (cs' : Array Value) (hb : W.heap[g]? = some (.cells cs t (0, 0))) : Step [g] [(g, .cells cs' t (0, 0))] W (W.setRow g cs') :=
  Step.put rfl rfl rfl (by simp) (setRow_heap W g cs cs' t (0, 0) hb) (fun b hb => setRow_other W g b cs' hb)
theorem run_store1 {W : World} {g i : Nat} {T t : TypeId} {cs : Array Value} {v : Value} (hb : W.heap[g]? = some (.cells cs t (0, 0))) (hi : i < cs.size) (h1 : v.oneCell' = true) (hsz : (P.info? T).map (·.size) = some 1) : (storeVar T ⟨g, i, none⟩ v).run P W = .ok () (W.setCell ⟨g, i, none⟩ v) := by
  have hb' : Blk W g t cs := hb
  cases hq : P.info? T with
  | none => simp [hq] at hsz
  | some inf =>
    have hs : inf.size = 1 := by simpa [hq] using hsz
    have hc : v.cells = #[v] := by cases v <;> first | rfl | simp [Value.oneCell'] at h1
    have hst : (store ⟨g, i, none⟩ v).run P W = .ok () (W.setCell ⟨g, i, none⟩ v) := by
      rw [run_store P W ⟨g, i, none⟩ v .plain h1]
      have hcell : W.cell? ⟨g, i, none⟩ = some cs[i] := (hb'.cell i).trans (Array.getElem?_eq_getElem hi)
      simp [hcell, hb'.frozen i]
    unfold storeVar
    simp only [sizeOf, typeInfo, hc, Sem.run_bind]
    simp [hq, hs, storeCells, Addr.add, Sem.run_bind, hst]
/-- The guards, the conditions, the places. -/
theorem gen_ok (HB : Fr a Ds b) (hg : ∀ e ∈ genE L a t η k o, e.2.1 = e.2.2) :
    guardOk L b t k o η ∧ (∀ c ∈ t.cds k, c.1 ∈ t.D k) ∧ (t.cds k ≠ [] → t.wr η k = [] ∨ t.Hold η k) ∧ (∀ x ∈ t.rd η k, free L t η k x.1 ∧ t.at η x.1 k = some x.2) ∧ ((t.rd η k).map (·.1)).Nodup ∧
    (∀ x ∈ t.wr η k, free L t η k x.1) ∧ (∀ p ∈ t.ob k, ∃ x, (p, x) ∈ t.wr η k) ∧
    t.val (mask (t.D k) η) k = t.val η k ∧ t.wt (mask (t.D k) η) k = t.wt η k := by
  simp only [genE, List.mem_cons, List.not_mem_nil, or_false, forall_eq_or_imp, forall_eq, sE, sB] at hg
  obtain ⟨g1, g2, g3, g4, g5, g6, g8, g9, g11, g12⟩ := hg
  have hfree : ∀ p ∈ (t.rd η k).map (·.1) ++ (t.wr η k).map (·.1), free L t η k p := by
    intro p hp
    have h1 := List.all_eq_true.1 g5 p hp
    simp only [Bool.and_eq_true] at h1
    refine ⟨Nat.blt_eq ▸ h1.1, fun j hj hjk hl => ?_⟩
    have h2 := List.all_eq_true.1 h1.2 j (List.mem_range.2 hj)
    simp only [Bool.or_eq_true, Bool.and_eq_true, beq_iff_eq] at h2
    rcases h2 with ((h2 | h2) | ⟨h2, h3⟩) | ⟨h2, h3⟩
    · exact absurd h2 hjk
    · rw [Option.isNone_iff_eq_none] at h2
      rw [h2] at hl
      cases hl
    · exact .inl ⟨Nat.blt_eq ▸ h2, by simpa using h3⟩
    · exact .inr ⟨Nat.blt_eq ▸ h2, by simpa using h3⟩
  have lmap : ∀ {α : Type} {l : Wr} {f g : Nat × Ent → α}, l.map f = l.map g → ∀ x ∈ l, f x = g x := fun {α l f g} h x hx => by
    obtain ⟨i, hi, rfl⟩ := List.getElem_of_mem hx
    have := congrArg (fun z => z[i]?) h
    simpa [hi] using this
  refine ⟨?_, ?_, ?_, ?_, nodupB_spec g6, ?_, ?_, g11, g12⟩
  · unfold guardOk
    cases hgd : o.guard with
    | none => rw [hgd] at g1; exact g1
    | some jb =>
      obtain ⟨j, b⟩ := jb
      rw [hgd] at g1 g2
      simp only [Bool.and_eq_true] at g2
      refine ⟨g1, by simpa using g2.1.1, ?_, ?_⟩
      · have h3 := g2.1.2
        cases hv : t.vs η j with
        | bool E => exact ⟨E, rfl⟩
        | _ => rw [hv] at h3; cases h3
      · have h3 := g2.2
        cases hd : (L.toArray[j]?).bind (·.dst) with
        | none => rw [hd] at h3; cases h3
        | some d =>
          rw [hd] at h3
          simp only [Bool.and_eq_true, beq_iff_eq] at h3
          exact ⟨d, rfl, h3.1, by rw [HB.size]; exact h3.2⟩
  · intro c hc
    have := List.all_eq_true.1 g3 c hc
    simpa using this
  · intro hne
    simp only [Bool.or_eq_true, List.isEmpty_iff] at g4
    refine (g4.elim (fun h => h.elim (fun h => absurd h hne) .inl) fun h => .inr fun c hc => ?_)
    have h1 := List.all_eq_true.1 h c hc
    unfold litB at h1
    split at h1
    · rename_i b E h2 h3
      rw [h3, eq_of_beq h1]
    · cases h1
  · intro x hx
    exact ⟨hfree _ (List.mem_append_left _ (List.mem_map.2 ⟨x, hx, rfl⟩)), lmap g8 x hx⟩
  · intro x hx
    exact hfree _ (List.mem_append_right _ (List.mem_map.2 ⟨x, hx, rfl⟩))
  · intro p hp
    have h1 := List.all_eq_true.1 g9 p hp
    obtain ⟨x, hx⟩ := Option.isSome_iff_exists.1 h1
    exact ⟨x, look_mem hx⟩
end
theorem andE_spec {b E : Bool} {x v : Value} (h : andE b E x = some v) : b = true ∧ ∃ X, x = .bool X ∧ v = .bool (E && X) := by
  unfold andE at h
  split at h
  · cases h; exact ⟨rfl, _, rfl, rfl⟩
  · cases h
theorem orE_spec {b E : Bool} {x v : Value} (h : orE b E x = some v) : b = true ∧ ∃ X, x = .bool X ∧ v = .bool (E || X) := by
  unfold orE at h
  split at h
  · cases h; exact ⟨rfl, _, rfl, rfl⟩
  · cases h
theorem satL_at : ∀ {rd : Ents} {cs : List Objs}, SatL rd cs → rd.length = cs.length
  | [], [], _ => rfl
  | _ :: _, _ :: _, h => by rw [List.length_cons, List.length_cons, satL_at h.2]
  | [], _ :: _, h => h.elim
  | _ :: _, [], h => h.elim
/-- What the places hold, as lists. -/
theorem satL_zip {c : Cnc} : ∀ {ps : List Nat} {rd : Ents}, ps.length = rd.length → (∀ x ∈ ps.zip rd, x.2.sat (c x.1)) → SatL rd (ps.map c)
  | [], [], _, _ => trivial
  | p :: ps, x :: rd, h, hs => ⟨hs (p, x) (by simp), satL_zip (by simpa using h) fun y hy => hs y (by rw [List.zip_cons_cons]; exact List.mem_cons_of_mem _ hy)⟩
  | [], _ :: _, h, _ => by simp at h
  | _ :: _, [], h, _ => by simp at h
theorem zip_flat {c : Cnc} : ∀ {ps : List Nat} {rd : Ents}, ps.length = rd.length → (ps.zip rd).flatMap (fun x => c x.1) = (ps.map c).flatten
  | [], [], _ => rfl
  | p :: ps, x :: rd, h => by rw [List.zip_cons_cons, List.flatMap_cons, List.map_cons, List.flatten_cons, zip_flat (by simpa using h)]
  | [], _ :: _, h => by simp at h
  | _ :: _, [], h => by simp at h
/-- What lies at the places qs. -/
def placeC : List Nat → List Objs → Cnc
  | q :: qs, d :: ds => fun p => if p = q then d else placeC qs ds p
  | _, _ => fun _ => []
theorem map_place : ∀ {qs : List Nat} {ds : List Objs}, qs.length = ds.length → qs.Nodup → qs.map (placeC qs ds) = ds
  | [], [], _, _ => rfl
  | q :: qs, d :: ds, h, hn => by
    rw [List.nodup_cons] at hn
    have e : ∀ p ∈ qs, placeC (q :: qs) (d :: ds) p = placeC qs ds p := fun p hp => if_neg fun (e : p = q) => hn.1 (e ▸ hp)
    rw [List.map_cons, List.map_congr_left e, map_place (by simpa using h) hn.2]
    exact congrArg (· :: ds) (if_pos rfl)
  | [], _ :: _, h, _ => by simp at h
  | _ :: _, [], h, _ => by simp at h
theorem sat_zip {c : Cnc} : ∀ {qs : List Nat} {rd : Ents} {ds : List Objs}, qs.map c = ds → SatL rd ds → ∀ x ∈ qs.zip rd, x.2.sat (c x.1)
  | [], _, _, _, _, x, hx => by simp at hx
  | q :: qs, [], _, _, _, x, hx => by simp at hx
  | q :: qs, y :: rd, ds, e, hs, x, hx => by
    subst e
    rw [List.zip_cons_cons] at hx
    rcases List.mem_cons.1 hx with rfl | hx
    · exact hs.1
    · exact sat_zip rfl hs.2 x hx
section
variable {F : Fence} {n : Nat} {P : Program} {L : List Oper} {Q : Exit → Act → World → Prop} {a : Sl} {b : Act} {Ds : List Nat} {t : Told} {η : Envs} {k : Nat} {o : Oper}
theorem kind_ok [hL : LiftF F] (HB : Fr a Ds b) (h : Hint P) (hq : ∀ e ∈ hintE L a t η k o h, e.2.1 = e.2.2)
    (he : ∀ e ∈ kindE L a t η k o h, e.2.1 = e.2.2) : Acts F n P L Q b t η k o := by
  have hF := hL.free
  simp only [hintE, List.mem_cons, List.not_mem_nil, or_false, forall_eq_or_imp, forall_eq, sE] at hq
  obtain ⟨hv, hrd, hwt, hob⟩ := hq
  refine ⟨fun xs w' c hx hf hH hC K hK => ?_⟩
  rw [hrd] at hH
  rw [hv, hwt, hob] at hK
  have ev : ∀ {x}, okR L a t k (t.cds k) x = true → (putsH xs L 0 b).eval x = rhoR L a t η k x := fun ho => eval_rho HB hx hf hC ho
  have nd : opOk L a t k o = true → noDefer o = true := fun h => by unfold opOk at h; simp only [Bool.and_eq_true] at h; exact h.1
  have cg : opOk L a t k o = true → execOp (putsH xs L 0 b).eval o = execOp (rhoR L a t η k) o := fun h => by
    unfold opOk at h
    simp only [Bool.and_eq_true] at h
    cases hl : opds o.op with
    | none => rw [hl] at h; cases h.2
    | some l =>
      rw [hl] at h
      exact execOp_congr hl fun x hxl => ev (List.all_eq_true.1 h.2 x hxl)
  cases h with
  | v v =>
    simp only [kindE, List.mem_cons, List.not_mem_nil, or_false, forall_eq_or_imp, forall_eq, sE, sB] at he
    exact wp_val hF (nd he.1) (by rw [cg he.1]; exact congrFun he.2 w') (hK Env.zero (fun _ => []) w' (fun x h => by simp [Hint.wt] at h) (by simpa [Hint.wt, Hint.ob] using Step.refl w'))
  | t d =>
    simp only [kindE, List.mem_cons, forall_eq_or_imp, sB] at he
    exact wp_val hF (nd he.1) (by rw [cg he.1]; exact d.h o _ he.2 w') (hK Env.zero (fun _ => []) w' (fun x h => by simp [Hint.wt] at h) (by simpa [Hint.wt, Hint.ob] using Step.refl w'))
  | u d j E b h =>
    simp only [kindE, List.mem_cons, forall_eq_or_imp, sE, sB] at he
    obtain ⟨h1, h2, h3, h4⟩ := he
    have hE : E = b := by
      have := hC (j, b) (by simpa using h2)
      rw [h3] at this
      exact Value.bool.inj this
    exact wp_val hF (nd h1) (by rw [cg h1]; exact h hE o _ h4 w') (hK Env.zero (fun _ => []) w' (fun x h => by simp [Hint.wt] at h) (by simpa [Hint.wt, Hint.ob] using Step.refl w'))
  | k v =>
    simp only [kindE] at he
    have hz : K v w' := hK Env.zero (fun _ => []) w' (fun x h => by simp [Hint.wt] at h) (by simpa [Hint.wt, Hint.ob] using Step.refl w')
    split at he
    · rename_i c x y hop
      simp only [List.mem_cons, List.not_mem_nil, or_false, forall_eq_or_imp, forall_eq, sE, sB] at he
      obtain ⟨h1, h2⟩ := he
      have hnd : noDefer o = true := by unfold noDefer; rw [hop]
      refine wp_val hF hnd ?_ (hz)
      have hc := ev h1
      -- what is known where the test is true, or false
      have evC : ∀ {z : Operand} {E bb : Bool}, rhoR L a t η k c = .bool E → E = bb →
          okR L a t k (match (match c with | .tmp i => (match whoPuts i L 0 with | some j => if (t.D k).contains j then some j else none | none => none) | _ => none) with | some j => t.cds k ++ [(j, bb)] | none => t.cds k) z = true → (putsH xs L 0 b).eval z = rhoR L a t η k z := by
        intro z E bb hcE hEb hz
        refine eval_rho HB hx hf ?_ hz
        intro q hq
        cases c with
        | tmp i =>
          simp only at hq hcE
          simp only [rhoR] at hcE
          cases hw : whoPuts i L 0 with
          | none => rw [hw] at hq; exact hC q hq
          | some j =>
            rw [hw] at hq hcE
            simp only at hq hcE
            by_cases hd : (t.D k).contains j = true
            · rw [if_pos hd] at hq hcE
              simp only at hq
              rcases List.mem_append.1 hq with h3 | h3
              · exact hC q h3
              · obtain rfl := List.mem_singleton.1 h3
                rw [← hEb]
                exact hcE
            · rw [if_neg hd] at hq
              exact hC q hq
        | _ => exact hC q hq
      unfold pickE at h2
      simp only at h2
      split at h2
      · rename_i E hcE
        have hcv := hc.trans hcE
        split at h2
        · obtain ⟨hok, X, hX, rfl⟩ := andE_spec h2
          cases E with
          | false => exact run_pickO hop hcv rfl
          | true => exact run_pickO hop hcv ((evC hcE rfl hok).trans hX)
        · split at h2
          · obtain ⟨hok, Y, hY, rfl⟩ := orE_spec h2
            cases E with
            | false => exact run_pickO hop hcv ((evC hcE rfl hok).trans hY)
            | true => exact run_pickO hop hcv rfl
          · cases h2
      · cases h2
    · exact (sB_false he).elim
  | d v =>
    simp only [kindE] at he
    split at he
    · rename_i j b hl
      simp only [List.mem_cons, List.not_mem_nil, or_false, forall_eq, sE] at he
      have hm := List.mem_of_getLast? hl
      have := hC (j, b) hm
      rw [he] at this
      cases b <;> cases this
    · exact (sB_false he).elim
  | m d =>
    simp only [kindE, List.mem_cons, forall_eq_or_imp, sB] at he
    obtain ⟨E, z, w'', hr, hs, hst⟩ := d.h o (rhoR L a t η k) (fun p => t.at η p k) he.2 w' c hH
    rcases hr with hr | ⟨hr, hu⟩
    · exact wp_val hF (nd he.1) (by rw [cg he.1]; exact hr) (hK E z w'' hs hst)
    · refine wp_skip hF (nd he.1) (by rw [cg he.1]; exact hr) ?_
      have := hK E z w'' hs hst
      rw [show (Hint.m d).val E = undef from hu] at this
      exact this
  | @c f args rd O wt v ps qs h =>
    simp only [kindE] at he
    split at he
    · rename_i f' xs' ats hop
      simp only [List.mem_cons, List.not_mem_nil, or_false, forall_eq_or_imp, forall_eq, sE, sB] at he
      obtain ⟨h1, h2, h3, h4, h5, h6⟩ := he
      subst h1
      have hm : xs'.map (putsH xs L 0 b).eval = args := by
        rw [map_congrA (ρ' := rhoR L a t η k) fun x hx => ev (List.all_eq_true.1 h2 x hx)]
        apply Array.toList_inj.1
        rw [Array.toList_map]
        exact h3
      have hs := satL_zip (c := c) h4 hH.sat
      have hh := hH.has
      rw [show Hint.rd (Hint.c ps qs h) o (rhoR L a t η k) (fun p => t.at η p k) = ps.zip rd from rfl, zip_flat h4] at hh
      refine wp_call hF hop h.ent hm ((hL.lift (h.out w' _ hs hh)).mono ?_)
      rintro e w'' ⟨E, ds, rfl, hd, hst⟩
      have hl : qs.length = ds.length := by rw [← satL_at hd]; exact (congrFun h5 E).symm
      have hpl := map_place hl (nodupB_spec h6)
      refine ⟨_, rfl, hK E (placeC qs ds) w'' (sat_zip hpl hd) ?_⟩
      show Step ((O.map fun i => ps.getD i 0).flatMap fun p => ids (c p)) ((qs.zip (wt E)).flatMap fun x => placeC qs ds x.1) w' w''
      rw [zip_flat (by rw [hl, satL_at hd]), hpl]
      refine hst.grow ?_
      intro b hb
      obtain ⟨i, hi, hb⟩ := List.mem_flatMap.1 hb
      refine List.mem_flatMap.2 ⟨ps.getD i 0, List.mem_map.2 ⟨i, hi, rfl⟩, ?_⟩
      by_cases hlt : i < ps.length
      · rw [List.getD_eq_getElem?_getD, List.getElem?_map, List.getElem?_eq_getElem hlt] at hb
        rw [List.getD_eq_getElem?_getD, List.getElem?_eq_getElem hlt]
        exact hb
      · rw [List.getD_eq_getElem?_getD, List.getElem?_eq_none (by rw [List.length_map]; omega)] at hb
        simp at hb
    · rename_i ti xs' ats hop
      simp only [List.mem_cons, List.not_mem_nil, or_false, forall_eq_or_imp, forall_eq, sE, sB] at he
      obtain ⟨h1, h2, h3, h4, h5, h6⟩ := he
      obtain ⟨first, cap, hfv, hargs⟩ := clos_spec h3
      have hxv := (ev h1).trans hfv
      have hm : first ++ xs'.map (putsH xs L 0 b).eval ++ cap = args := by
        rw [map_congrA (ρ' := rhoR L a t η k) fun x hx => ev (List.all_eq_true.1 h2 x hx)]
        apply Array.toList_inj.1
        rw [Array.toList_append, Array.toList_append, Array.toList_map]
        exact hargs.symm
      have hs := satL_zip (c := c) h4 hH.sat
      have hh := hH.has
      rw [show Hint.rd (Hint.c ps qs h) o (rhoR L a t η k) (fun p => t.at η p k) = ps.zip rd from rfl, zip_flat h4] at hh
      refine wp_callV hF hop h.ent hxv hm ((hL.lift (h.out w' _ hs hh)).mono ?_)
      rintro e w'' ⟨E, ds, rfl, hd, hst⟩
      have hl : qs.length = ds.length := by rw [← satL_at hd]; exact (congrFun h5 E).symm
      have hpl := map_place hl (nodupB_spec h6)
      refine ⟨_, rfl, hK E (placeC qs ds) w'' (sat_zip hpl hd) ?_⟩
      show Step ((O.map fun i => ps.getD i 0).flatMap fun p => ids (c p)) ((qs.zip (wt E)).flatMap fun x => placeC qs ds x.1) w' w''
      rw [zip_flat (by rw [hl, satL_at hd]), hpl]
      refine hst.grow ?_
      intro b hb
      obtain ⟨i, hi, hb⟩ := List.mem_flatMap.1 hb
      refine List.mem_flatMap.2 ⟨ps.getD i 0, List.mem_map.2 ⟨i, hi, rfl⟩, ?_⟩
      by_cases hlt : i < ps.length
      · rw [List.getD_eq_getElem?_getD, List.getElem?_map, List.getElem?_eq_getElem hlt] at hb
        rw [List.getD_eq_getElem?_getD, List.getElem?_eq_getElem hlt]
        exact hb
      · rw [List.getD_eq_getElem?_getD, List.getElem?_eq_none (by rw [List.length_map]; omega)] at hb
        simp at hb
    · exact (sB_false he).elim
end

def depR (drawn : Bool) (L : List Oper) : List (List Nat) := if drawn then depL L.length L [] else (List.range L.length).map List.range
section
variable {F : Fence} {n : Nat} {P : Program} {L : List Oper} {Q : Exit → Act → World → Prop} {a : Sl} {R : List Nat} {base : World}
theorem reOk_of [hL : LiftF F] {b : Act} {Ds : List Nat} (HB : Fr a Ds b) {t : Told} {hs : Envs → List (Hint P)}
    (he : ∀ η, (allE L a t η 0 L (hs η)).map Eqn.lhs = (allE L a t η 0 L (hs η)).map Eqn.rhs) : ReOk F n P L Q b t := by
  have key : ∀ η k o, L[k]? = some o → ∃ h, (hs η)[k]? = some h ∧ (∀ e ∈ genE L a t η k o, e.2.1 = e.2.2) ∧ (∀ e ∈ hintE L a t η k o h, e.2.1 = e.2.2) ∧ ∀ e ∈ kindE L a t η k o h, e.2.1 = e.2.2 := by
    intro η k o ho
    obtain ⟨h, h1, h2⟩ := allE_get (Eqn.all (he η)) k o ho
    rw [Nat.zero_add] at h2
    exact ⟨h, h1, fun e hm => h2 e (List.mem_append_left _ hm), fun e hm => h2 e (List.mem_append_right _ (List.mem_append_left _ hm)), fun e hm => h2 e (List.mem_append_right _ (List.mem_append_right _ hm))⟩
  have keyg : ∀ η k, k < L.length → ∃ o, L[k]? = some o ∧ ∀ e ∈ genE L a t η k o, e.2.1 = e.2.2 := by
    intro η k hk
    obtain ⟨h, h1, h2, _⟩ := key η k L[k] (List.getElem?_eq_getElem hk)
    exact ⟨_, List.getElem?_eq_getElem hk, h2⟩
  refine ⟨?_, ?_, ?_, ?_, ?_, ?_, ?_, ?_, ?_, ?_⟩
  · intro η k o ho
    obtain ⟨h, _, _, h3, h4⟩ := key η k o ho
    exact kind_ok HB h h3 h4
  · intro η k o ho
    obtain ⟨h, _, h2, _⟩ := key η k o ho
    exact (gen_ok HB h2).1
  · intro k hk
    obtain ⟨o, _, h2⟩ := keyg (fun _ => Env.zero) k hk
    exact (gen_ok HB h2).2.1
  · intro η k hk
    obtain ⟨o, _, h2⟩ := keyg η k hk
    exact (gen_ok HB h2).2.2.1
  · intro η k hk
    obtain ⟨o, _, h2⟩ := keyg η k hk
    exact (gen_ok HB h2).2.2.2.1
  · intro η k hk
    obtain ⟨o, _, h2⟩ := keyg η k hk
    exact (gen_ok HB h2).2.2.2.2.1
  · intro η k hk
    obtain ⟨o, _, h2⟩ := keyg η k hk
    exact (gen_ok HB h2).2.2.2.2.2.1
  · intro η k hk
    obtain ⟨o, _, h2⟩ := keyg η k hk
    exact (gen_ok HB h2).2.2.2.2.2.2.1
  · intro η k hk
    obtain ⟨o, _, h2⟩ := keyg η k hk
    exact (gen_ok HB h2).2.2.2.2.2.2.2.1
  · intro η k hk
    obtain ⟨o, _, h2⟩ := keyg η k hk
    exact (gen_ok HB h2).2.2.2.2.2.2.2.2
end
end Go.Proofs.Ytdglhppcfdpcaaa.E
namespace Go.Proofs.Ytdglhppcfdpcaaa.E
open Go Go.RowKit Go.Shelf
section
variable {P : Program}

theorem run_ls {w : World} {g off : Nat} {ty T : TypeId} {cs : Array Value} {l : List Value} (hg : w.heap[g]? = some (.cells cs ty (0, 0))) (hl : (cs.toList.drop off).take l.length = l) (h : aggB P T = true) (hi : (P.info? T).map (·.size) = some l.length) : (loadVar T ⟨g, off, none⟩).run P w = .ok (.agg l.toArray) w := by
  unfold aggB at h
  split at h
  · rename_i e; exact run_loadVar_sub w g off ty T cs l hg hl e rfl hi
  · rename_i e; exact run_loadVar_sub w g off ty T cs l hg hl e rfl hi
  · cases h
/-- The eqns of a list hold. -/
theorem HasC.one {p g : Nat} {x : Obj} {c : Cnc} {w : World} (h : HasC [(p, .c [(g, x)])] c w) : c p = [(g, x)] ∧ w.heap[g]? = some x := by
  have h1 : c p = [(g, x)] := h.sat _ (List.mem_singleton.2 rfl)
  exact ⟨h1, h.has.obj (g, x) (by simp [h1])⟩
theorem HasC.pack {p : Nat} {Q : Objs → Prop} {c : Cnc} {w : World} (h : HasC [(p, .p Q)] c w) : Q (c p) ∧ Has (c p) w := by
  have := h.has
  exact ⟨h.sat _ (List.mem_singleton.2 rfl), by simpa using this⟩
def Env.of (b : Nat) : Env := ⟨fun _ => b, fun _ => 0, fun _ => undef⟩

/-! Told by a run. -/
theorem run_vS {s : Sem Value} {v : Value} {w w' : World} (h : s.run P w = .ok v w') : (vS s).run P w = .ok (.value v) w' := by
  unfold vS
  simp only [Sem.run_bind, h, Result.andThen_ok, Sem.run_pure]
def tv {v : Value} (s : Sem Value) (h : ∀ w, s.run P w = .ok v w) : TH P v := ⟨fun o ρ => [sE (fun w => (execOp ρ o).run P w) (fun w => (vS s).run P w)], fun o ρ he w => by
  simp only [List.mem_singleton, forall_eq, sE] at he
  exact (congrFun he w).trans (run_vS (h w))⟩
/-- The cells that a variable of a type begins with. -/
def zcs (P : Program) (T : TypeId) : Array Value := match (P.info? T).bind (·.zero) with | some v => v.cells | none => #[]

/-! Memory. -/
def adr : Value → Option (Nat × Nat)
  | .pointer (some ⟨g, off, none⟩) => some (g, off)
  | _ => none
theorem adr_some {v : Value} {g off : Nat} (h : adr v = some (g, off)) : v = .pointer (some ⟨g, off, none⟩) := by
  unfold adr at h
  split at h
  · cases h; rfl
  · cases h
def ldD (P : Program) (p : Nat) (v : Value) (o : Oper) (ρ : Operand → Value) (C : Mem) : MD := match o.op, C p with
  | .load T x, some (.c [(g, .cells cs ty (0, 0))]) => match adr (ρ x) with
    | some (g', off) => ⟨[(p, ob g cs ty)], fun _ => [], [sE g' g, sE cs[off]? (some v), sE (fun w => (isAgg T).run P w) (fun w => .ok false w)]⟩
    | none => MD.bad
  | _, _ => MD.bad
theorem ld_ok (p : Nat) (v : Value) : MD.ok P (fun _ => v) (ldD P p v) [] := by
  intro o ρ C he w c hH
  unfold ldD at he hH ⊢
  split at he
  · rename_i T x g cs ty hop hC
    simp only [hop, hC] at hH ⊢
    split at he
    · rename_i g' off ha
      simp only [ha] at hH ⊢
      simp only [List.mem_cons, List.not_mem_nil, or_false, forall_eq_or_imp, forall_eq, sE] at he
      obtain ⟨rfl, h2, h3⟩ := he
      have hb : Blk w g' ty cs := hH.one.2
      refine ⟨Env.zero, fun _ => [], w, .inl ?_, fun x h => by simp at h, by simpa using Step.refl w⟩
      unfold execOp
      simp only [hop, adr_some ha, Instr.loadAt, Instr.sureAddr, Sem.run_bind, Sem.run_pure, Result.andThen_ok, run_loadVar_cell (congrFun h3 w) ((hb.cell off).trans h2)]
    · exact (sB_false he).elim
  · exact (sB_false he).elim
def ld (p : Nat) (v : Value) : MH P (fun _ => v) := ⟨[], ldD P p v, ld_ok p v⟩
/-- A cell whose place or content is told. -/
def ltD (P : Program) (p g off : Nat) (cs : Array Value) (t : TypeId) (o : Oper) (ρ : Operand → Value) (_ : Mem) : MD := match o.op with
  | .load T x => ⟨[(p, ob g cs t)], fun _ => [], [sE (adr (ρ x)) (some (g, off)), sE (fun w => (isAgg T).run P w) (fun w => .ok false w)]⟩
  | _ => MD.bad
theorem lt_ok (p g off : Nat) (cs : Array Value) (t : TypeId) (v : Value) (h : cs[off]? = some v) : MD.ok P (fun _ => v) (ltD P p g off cs t) [] := by
  intro o ρ C he w c hH
  unfold ltD at he hH ⊢
  split at he
  · rename_i T x hop
    simp only [hop] at hH ⊢
    simp only [List.mem_cons, List.not_mem_nil, or_false, forall_eq_or_imp, forall_eq, sE] at he
    obtain ⟨ha, h3⟩ := he
    have hb : Blk w g t cs := hH.one.2
    refine ⟨Env.zero, fun _ => [], w, .inl ?_, fun x h => by simp at h, by simpa using Step.refl w⟩
    unfold execOp
    simp only [hop, adr_some ha, Instr.loadAt, Instr.sureAddr, Sem.run_bind, Sem.run_pure, Result.andThen_ok, run_loadVar_cell (congrFun h3 w) ((hb.cell off).trans h)]
  · exact (sB_false he).elim
def lt {v : Value} (p g off : Nat) (cs : Array Value) (t : TypeId) (h : cs[off]? = some v) : MH P (fun _ => v) := ⟨[], ltD P p g off cs t, lt_ok p g off cs t v h⟩
/-- Some cells, as an aggregate. -/
def lsD (P : Program) (p : Nat) (l : List Value) (o : Oper) (ρ : Operand → Value) (C : Mem) : MD := match o.op, C p with
  | .load T x, some (.c [(g, .cells cs ty (0, 0))]) => match adr (ρ x) with
    | some (g', off) => ⟨[(p, ob g cs ty)], fun _ => [], [sE g' g, sE ((cs.toList.drop off).take l.length) l, sB (aggB P T), sE ((P.info? T).map (·.size)) (some l.length)]⟩
    | none => MD.bad
  | _, _ => MD.bad
theorem ls_ok (p : Nat) (l : List Value) : MD.ok P (fun _ => .agg l.toArray) (lsD P p l) [] := by
  intro o ρ C he w c hH
  unfold lsD at he hH ⊢
  split at he
  · rename_i T x g cs ty hop hC
    simp only [hop, hC] at hH ⊢
    split at he
    · rename_i g' off ha
      simp only [ha] at hH ⊢
      simp only [List.mem_cons, List.not_mem_nil, or_false, forall_eq_or_imp, forall_eq, sE, sB] at he
      obtain ⟨rfl, h2, h3, h4⟩ := he
      refine ⟨Env.zero, fun _ => [], w, .inl ?_, fun x h => by simp at h, by simpa using Step.refl w⟩
      unfold execOp
      simp only [hop, adr_some ha, Instr.loadAt, Instr.sureAddr, Sem.run_bind, Sem.run_pure, Result.andThen_ok, run_ls hH.one.2 h2 h3 h4]
    · exact (sB_false he).elim
  · exact (sB_false he).elim
def ls (p : Nat) (l : List Value) : MH P (fun _ => .agg l.toArray) := ⟨[], lsD P p l, ls_ok p l⟩
/-- Some cells whose place or content is told. -/
def lgD (P : Program) (p g off : Nat) (cs : Array Value) (t : TypeId) (l : List Value) (o : Oper) (ρ : Operand → Value) (_ : Mem) : MD := match o.op with
  | .load T x => ⟨[(p, ob g cs t)], fun _ => [], [sE (adr (ρ x)) (some (g, off)), sB (aggB P T), sE ((P.info? T).map (·.size)) (some l.length)]⟩
  | _ => MD.bad
theorem lg_ok (p g off : Nat) (cs : Array Value) (t : TypeId) (l : List Value) (h : (cs.toList.drop off).take l.length = l) : MD.ok P (fun _ => .agg l.toArray) (lgD P p g off cs t l) [] := by
  intro o ρ C he w c hH
  unfold lgD at he hH ⊢
  split at he
  · rename_i T x hop
    simp only [hop] at hH ⊢
    simp only [List.mem_cons, List.not_mem_nil, or_false, forall_eq_or_imp, forall_eq, sE, sB] at he
    obtain ⟨ha, h3, h4⟩ := he
    refine ⟨Env.zero, fun _ => [], w, .inl ?_, fun x h => by simp at h, by simpa using Step.refl w⟩
    unfold execOp
    simp only [hop, adr_some ha, Instr.loadAt, Instr.sureAddr, Sem.run_bind, Sem.run_pure, Result.andThen_ok, run_ls hH.one.2 h h3 h4]
  · exact (sB_false he).elim
def lg (p g off : Nat) (cs : Array Value) (t : TypeId) (l : List Value) (h : (cs.toList.drop off).take l.length = l) : MH P (fun _ => .agg l.toArray) := ⟨[], lgD P p g off cs t l, lg_ok p g off cs t l h⟩
/-- A new block. -/
def alD (P : Program) (p : Nat) (o : Oper) (_ : Operand → Value) (_ : Mem) : MD := match o.op with
  | .alloc T => ⟨[], fun E => [(p, ob (E.blk 0) (zcs P T) T)], [sE (fun w => (Instr.alloc T true (.tuple #[])).run P w) (fun w => .ok (ptrV w.heap.size 0) (w.alloc (.cells (zcs P T) T)))]⟩
  | _ => MD.bad
theorem al_ok (p : Nat) : MD.ok P (fun E => .pointer (some ⟨E.blk 0, 0, none⟩)) (alD P p) [] := by
  intro o ρ C he w c hH
  unfold alD at he hH ⊢
  split at he
  · rename_i T hop
    simp only [hop] at hH ⊢
    simp only [List.mem_singleton, forall_eq, sE, ptrV] at he
    refine ⟨Env.of w.heap.size, fun _ => [(w.heap.size, .cells (zcs P T) T (0, 0))], _, .inl ?_, fun x h => ?_, by simpa using Step.alloc w (.cells (zcs P T) T)⟩
    · unfold execOp
      have := congrFun he w
      simp only [hop, Sem.run_bind, this, Result.andThen_ok, Sem.run_pure]
      rfl
    · rw [List.mem_singleton.1 h]
      rfl
  · exact (sB_false he).elim
def al (p : Nat) : MH P (fun E => .pointer (some ⟨E.blk 0, 0, none⟩)) := ⟨[], alD P p, al_ok p⟩
def bxD (p : Nat) (o : Oper) (ρ : Operand → Value) (_ : Mem) : MD := match o.op with
  | .box T x => ⟨[], fun E => [(p, ob (E.blk 0) (ρ x).cells T)], []⟩
  | _ => MD.bad
theorem bx_ok (p : Nat) : MD.ok P (fun E => .pointer (some ⟨E.blk 0, 0, none⟩)) (bxD p) [] := by
  intro o ρ C he w c hH
  unfold bxD at he hH ⊢
  split at he
  · rename_i T x hop
    simp only [hop] at hH ⊢
    refine ⟨Env.of w.heap.size, fun _ => [(w.heap.size, .cells (ρ x).cells T (0, 0))], _, .inl ?_, fun y h => ?_, by simpa using Step.alloc w (.cells (ρ x).cells T)⟩
    · unfold execOp
      simp only [hop, Sem.run_bind, show (Instr.box T (ρ x)).run P w = .ok (.pointer (some ⟨w.heap.size, 0, none⟩)) (w.alloc (.cells (ρ x).cells T)) from rfl, Result.andThen_ok, Sem.run_pure]
      rfl
    · rw [List.mem_singleton.1 h]
      rfl
  · exact (sB_false he).elim
def bx (p : Nat) : MH P (fun E => .pointer (some ⟨E.blk 0, 0, none⟩)) := ⟨[], bxD p, bx_ok p⟩
/-- One cell is written. -/
def stD (P : Program) (p : Nat) (o : Oper) (ρ : Operand → Value) (C : Mem) : MD := match o.op, C p with
  | .store T x y, some (.c [(g, .cells cs ty (0, 0))]) => match adr (ρ x) with
    | some (g', off) => ⟨[(p, ob g cs ty)], fun _ => [(p, ob g (cs.setIfInBounds off (ρ y)) ty)], [sE g' g, sB (Nat.blt off cs.size), sB (ρ y).oneCell', sE ((P.info? T).map (·.size)) (some 1)]⟩
    | none => MD.bad
  | _, _ => MD.bad
theorem st_ok (p : Nat) : MD.ok P (fun _ => undef) (stD P p) [p] := by
  intro o ρ C he w c hH
  unfold stD at he hH ⊢
  split at he
  · rename_i T x y g cs ty hop hC
    simp only [hop, hC] at hH ⊢
    split at he
    · rename_i g' off ha
      simp only [ha] at hH ⊢
      simp only [List.mem_cons, List.not_mem_nil, or_false, forall_eq_or_imp, forall_eq, sE, sB] at he
      obtain ⟨rfl, h2, h3, h4⟩ := he
      obtain ⟨hc, hb⟩ := hH.one
      refine ⟨Env.zero, fun _ => [(g', .cells (cs.setIfInBounds off (ρ y)) ty (0, 0))], _, .inr ⟨?_, by simp⟩, fun z h => ?_, by simpa [hc, ids] using Step.setc (ρ y) hb⟩
      · unfold execOp
        simp only [hop, adr_some ha, Instr.storeAt, Instr.sureAddr, Sem.run_bind, Sem.run_pure, Result.andThen_ok, run_store1 hb (Nat.blt_eq ▸ h2) h3 h4]
      · rw [List.mem_singleton.1 h]
        rfl
    · exact (sB_false he).elim
  · exact (sB_false he).elim
def st (p : Nat) : MH P (fun _ => undef) := ⟨[p], stD P p, st_ok p⟩
/-- One cell is written; what the block holds then is told. -/
def swD (P : Program) (p g off : Nat) (t : TypeId) (v : Value) (cs cs' : Array Value) (o : Oper) (ρ : Operand → Value) (_ : Mem) : MD := match o.op with
  | .store T x y => ⟨[(p, ob g cs t)], fun _ => [(p, ob g cs' t)], [sE (adr (ρ x)) (some (g, off)), sE (ρ y) v, sB v.oneCell', sE ((P.info? T).map (·.size)) (some 1)]⟩
  | _ => MD.bad
theorem sw_ok (p g off : Nat) (t : TypeId) (v : Value) (cs cs' : Array Value) (h : cs.setIfInBounds off v = cs') (hi : off < cs.size) : MD.ok P (fun _ => undef) (swD P p g off t v cs cs') [p] := by
  intro o ρ C he w c hH
  unfold swD at he hH ⊢
  split at he
  · rename_i T x y hop
    simp only [hop] at hH ⊢
    simp only [List.mem_cons, List.not_mem_nil, or_false, forall_eq_or_imp, forall_eq, sE, sB] at he
    obtain ⟨ha, hv, h3, h4⟩ := he
    obtain ⟨hc, hb⟩ := hH.one
    subst h
    refine ⟨Env.zero, fun _ => [(g, .cells (cs.setIfInBounds off v) t (0, 0))], _, .inr ⟨?_, by simp⟩, fun z h => ?_, by simpa [hc, ids] using Step.setc v hb⟩
    · unfold execOp
      simp only [hop, adr_some ha, hv, Instr.storeAt, Instr.sureAddr, Sem.run_bind, Sem.run_pure, Result.andThen_ok, run_store1 hb hi h3 h4]
    · rw [List.mem_singleton.1 h]
      rfl
  · exact (sB_false he).elim
def sw (p g off : Nat) (t : TypeId) (v : Value) (cs cs' : Array Value) (h : cs.setIfInBounds off v = cs') (hi : off < cs.size) : MH P (fun _ => undef) := ⟨[p], swD P p g off t v cs cs', sw_ok p g off t v cs cs' h hi⟩
theorem run_stL {w : World} {g off : Nat} {ty T : TypeId} {cs : Array Value} {l : List Value} (hb : w.heap[g]? = some (.cells cs ty (0, 0))) (h7 : off + l.length ≤ cs.size) (h8 : ∀ v ∈ l, v.oneCell' = true) (h9 : (P.info? T).map (·.size) = some l.length) : (storeVar T ⟨g, off, none⟩ (.agg l.toArray)).run P w = .ok () (w.setRow g (cs.toList.take off ++ l ++ cs.toList.drop (off + l.length)).toArray) := by
  have hr0 := run_storeCells_at P g off ty l 0 cs w hb h7 h8
  cases hq : P.info? T with
  | none => simp [hq] at h9
  | some inf =>
    have hs2 : inf.size = l.length := by simpa [hq] using h9
    unfold storeVar
    simp only [sizeOf, typeInfo, Value.cells, Sem.run_bind]
    simp [hq, hs2, hr0]
def aggL : Value → Option (List Value)
  | .agg cs => some cs.toList
  | _ => none
theorem aggL_some {v : Value} {l : List Value} (h : aggL v = some l) : v = .agg l.toArray := by
  unfold aggL at h
  split at h
  · cases h; rfl
  · cases h
/-- Some cells are written, from an aggregate. -/
def ssD (P : Program) (p : Nat) (o : Oper) (ρ : Operand → Value) (C : Mem) : MD := match o.op, C p with
  | .store T x y, some (.c [(g, .cells cs ty (0, 0))]) => match adr (ρ x), aggL (ρ y) with
    | some (g', off), some l => ⟨[(p, ob g cs ty)], fun _ => [(p, ob g (cs.toList.take off ++ l ++ cs.toList.drop (off + l.length)).toArray ty)], [sE g' g, sB (Nat.ble (off + l.length) cs.size), sB (l.all (·.oneCell')), sE ((P.info? T).map (·.size)) (some l.length)]⟩
    | _, _ => MD.bad
  | _, _ => MD.bad
theorem ss_ok (p : Nat) : MD.ok P (fun _ => undef) (ssD P p) [p] := by
  intro o ρ C he w c hH
  unfold ssD at he hH ⊢
  split at he
  · rename_i T x y g cs ty hop hC
    simp only [hop, hC] at hH ⊢
    split at he
    · rename_i g' off l ha hl
      simp only [ha, hl] at hH ⊢
      simp only [List.mem_cons, List.not_mem_nil, or_false, forall_eq_or_imp, forall_eq, sE, sB] at he
      obtain ⟨rfl, h2, h3, h4⟩ := he
      obtain ⟨hc, hb⟩ := hH.one
      refine ⟨Env.zero, fun _ => [(g', .cells (cs.toList.take off ++ l ++ cs.toList.drop (off + l.length)).toArray ty (0, 0))], _, .inr ⟨?_, by simp⟩, fun z h => ?_, by rw [show ([p].flatMap fun p => ids (c p)) = _ by simp only [List.flatMap_cons, List.flatMap_nil, hc, ids]; rfl]; exact Step.setRow (cs.toList.take off ++ l ++ cs.toList.drop (off + l.length)).toArray hb⟩
      · unfold execOp
        simp only [hop, adr_some ha, aggL_some hl, Instr.storeAt, Instr.sureAddr, Sem.run_bind, Sem.run_pure, Result.andThen_ok, run_stL hb (Nat.le_of_ble_eq_true h2) (List.all_eq_true.1 h3) h4]
      · rw [List.mem_singleton.1 h]
        rfl
    · exact (sB_false he).elim
  · exact (sB_false he).elim
def ss (p : Nat) : MH P (fun _ => undef) := ⟨[p], ssD P p, ss_ok p⟩
/-- Some cells are written; what the block holds then is told. -/
def sgD (P : Program) (p g off : Nat) (t : TypeId) (l : List Value) (cs cs' : Array Value) (o : Oper) (ρ : Operand → Value) (_ : Mem) : MD := match o.op with
  | .store T x y => ⟨[(p, ob g cs t)], fun _ => [(p, ob g cs' t)], [sE (adr (ρ x)) (some (g, off)), sE (aggL (ρ y)) (some l), sE ((P.info? T).map (·.size)) (some l.length)]⟩
  | _ => MD.bad
theorem sg_ok (p g off : Nat) (t : TypeId) (l : List Value) (cs cs' : Array Value) (h : cs.toList.take off ++ l ++ cs.toList.drop (off + l.length) = cs'.toList) (hb : off + l.length ≤ cs.size) (h1 : ∀ u ∈ l, u.oneCell' = true) : MD.ok P (fun _ => undef) (sgD P p g off t l cs cs') [p] := by
  intro o ρ C he w c hH
  unfold sgD at he hH ⊢
  split at he
  · rename_i T x y hop
    simp only [hop] at hH ⊢
    simp only [List.mem_cons, List.not_mem_nil, or_false, forall_eq_or_imp, forall_eq, sE] at he
    obtain ⟨ha, hv, h4⟩ := he
    obtain ⟨hc, hbk⟩ := hH.one
    have e : cs' = (cs.toList.take off ++ l ++ cs.toList.drop (off + l.length)).toArray := by rw [h]
    subst e
    refine ⟨Env.zero, fun _ => [(g, .cells (cs.toList.take off ++ l ++ cs.toList.drop (off + l.length)).toArray t (0, 0))], _, .inr ⟨?_, by simp⟩, fun z h => ?_, by rw [show ([p].flatMap fun p => ids (c p)) = _ by simp only [List.flatMap_cons, List.flatMap_nil, hc, ids]; rfl]; exact Step.setRow (cs.toList.take off ++ l ++ cs.toList.drop (off + l.length)).toArray hbk⟩
    · unfold execOp
      simp only [hop, adr_some ha, aggL_some hv, Instr.storeAt, Instr.sureAddr, Sem.run_bind, Sem.run_pure, Result.andThen_ok, run_stL hbk hb h1 h4]
    · rw [List.mem_singleton.1 h]
      rfl
  · exact (sB_false he).elim
def sg (p g off : Nat) (t : TypeId) (l : List Value) (cs cs' : Array Value) (h : cs.toList.take off ++ l ++ cs.toList.drop (off + l.length) = cs'.toList) (hb : off + l.length ≤ cs.size) (h1 : ∀ u ∈ l, u.oneCell' = true) : MH P (fun _ => undef) := ⟨[p], sgD P p g off t l cs cs', sg_ok p g off t l cs cs' h hb h1⟩
/-- Whatever a run of its own tells. -/
def RunE (P : Program) (s : Sem Next) (v : Env → Value) (rd : Wr) (ob : List Nat) (wt : Env → Wr) : Prop := ∀ (w : World) (c : Cnc), HasC rd c w →
  ∃ (E : Env) (z : Cnc) (w' : World), (s.run P w = .ok (.value (v E)) w' ∨ (s.run P w = .ok .skip w' ∧ v E = undef)) ∧ (∀ x ∈ wt E, x.2.sat (z x.1)) ∧ Step (ob.flatMap fun p => ids (c p)) ((wt E).flatMap fun x => z x.1) w w'
end
end Go.Proofs.Ytdglhppcfdpcaaa.E
