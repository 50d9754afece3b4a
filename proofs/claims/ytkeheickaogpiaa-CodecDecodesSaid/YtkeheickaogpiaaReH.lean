/- What is told of each operation of a region, and the equations that are to be seen of it. No program in sight. -/
import Derived.Test.YtkeheickaogpiaaReA
namespace Go.Proofs.Ytkeheickaogpiaa
open Go Go.RowKit Go.Shelf

def vS (s : Sem Value) : Sem Next := do pure (.value (← s))
/-- The operands that an operation reads. -/
def opds : Op → Option (List Operand)
  | .move x => some [x]
  | .assign x => some [x]
  | .load _ x => some [x]
  | .box _ x => some [x]
  | .alloc _ => some []
  | .nilCheck x => some [x]
  | .unOp _ _ x => some [x]
  | .convert _ _ x => some [x]
  | .sliceToArrayPointer _ x => some [x]
  | .fieldAddr _ x _ => some [x]
  | .field _ x _ => some [x]
  | .extract x _ => some [x]
  | .binOp _ _ x y _ => some [x, y]
  | .indexAddr _ x y => some [x, y]
  | .index _ x y => some [x, y]
  | .lookup _ x y _ => some [x, y]
  | .store _ x y => some [x, y]
  | .makeSlice _ x y => some [x, y]
  | .mapUpdate _ x y z => some [x, y, z]
  | .build _ parts => some (parts.toList.map (·.2))
  | .buildSlice _ _ parts => some (parts.toList.map (·.2))
  | .slice _ x lo hi mx => some (x :: (lo.toList ++ hi.toList ++ mx.toList))
  | .makeFunc _ first captured => some (first.toList ++ captured.toList)
  | .makeMap _ r => some r.toList
  | .call c => match c.callee with | .builtin _ => some c.args.toList | _ => none
  | _ => none
theorem map_congrA {ρ ρ' : Operand → Value} {xs : Array Operand} (h : ∀ x ∈ xs.toList, ρ x = ρ' x) : xs.map ρ = xs.map ρ' := Array.map_congr_left fun x hx => h x (by simpa using hx)
theorem map_congrO {ρ ρ' : Operand → Value} {x : Option Operand} (h : ∀ y ∈ x.toList, ρ y = ρ' y) : x.map ρ = x.map ρ' := by cases x <;> simp_all
theorem map_congrP {ρ ρ' : Operand → Value} {xs : Array (Nat × Operand)} (h : ∀ x ∈ xs.toList.map (·.2), ρ x = ρ' x) : xs.map (fun (i, x) => (i, ρ x)) = xs.map (fun (i, x) => (i, ρ' x)) :=
  Array.map_congr_left fun x hx => by
    obtain ⟨i, x⟩ := x
    simp only
    rw [h x (List.mem_map.2 ⟨(i, x), by simpa using hx, rfl⟩)]
theorem execOp_congr {ρ ρ' : Operand → Value} {o : Oper} {l : List Operand} (h : opds o.op = some l) (hl : ∀ x ∈ l, ρ x = ρ' x) : execOp ρ o = execOp ρ' o := by
  unfold execOp
  cases hop : o.op <;> rw [hop] at h <;> simp only [opds, reduceCtorEq, Option.some.injEq] at h
  case call c =>
    cases hc : c.callee <;> rw [hc] at h <;> simp only [reduceCtorEq, Option.some.injEq] at h
    subst h
    simp only [resolve, hc, map_congrA hl]
  case build => subst h; simp only [map_congrP hl]
  case buildSlice => subst h; simp only [map_congrP hl]
  case makeFunc => subst h; simp only [map_congrA fun x hx => hl x (List.mem_append_left _ hx), map_congrA fun x hx => hl x (List.mem_append_right _ hx)]
  case makeMap => subst h; simp only [map_congrO hl]
  case slice =>
    subst h
    simp only [hl _ (List.mem_cons_self ..), map_congrO fun x hx => hl x (List.mem_cons_of_mem _ (List.mem_append_left _ (List.mem_append_left _ hx))), map_congrO fun x hx => hl x (List.mem_cons_of_mem _ (List.mem_append_left _ (List.mem_append_right _ hx))), map_congrO fun x hx => hl x (List.mem_cons_of_mem _ (List.mem_append_right _ hx))]
  all_goals (subst h; simp only [List.mem_cons, List.not_mem_nil, or_false, forall_eq_or_imp, forall_eq] at hl; simp only [hl])

/-- What an operation's value, and what it does, rests on. -/
inductive Hint (F : Fence) (n : Nat) (P : Program) : Type
  | pv (v : Value)
  | tv (v : Value) (s : Sem Value) (h : ∀ w, s.run P w = .ok v w)
  | tc (v : Value) (j : Nat) (E b : Bool) (s : Sem Value) (h : E = b → ∀ w, s.run P w = .ok v w)
  | pk (v : Value)
  | dead (v : Value)
  | ld (v : Value) (p off : Nat)
  | lt (v : Value) (p off g : Nat) (cs : Array Value) (t : TypeId) (h : cs[off]? = some v)
  | ls (l : List Value) (p off : Nat)
  | lr (p : Nat) (cs : Array Value) (T : TypeId) (h : (P.info? T).map (·.size) = some cs.size)
  | al (p : Nat) (T : TypeId) (cs : Array Value)
  | bx (p : Nat) (T : TypeId) (v : Value)
  | st (p g off : Nat) (t : TypeId) (v : Value) (cs : Array Value)
  | sw (p g off : Nat) (t : TypeId) (v : Value) (cs cs' : Array Value) (h : cs.setIfInBounds off v = cs') (hi : off < cs.size)
  | ss (p g off : Nat) (t : TypeId) (l : List Value) (cs : Array Value)
  | sr (p g : Nat) (t T : TypeId) (cs cs' : Array Value) (h : (P.info? T).map (·.size) = some cs'.size) (hs : cs'.size = cs.size) (h1 : cs'.all (·.oneCell') = true)
  | cl (f : FuncId) (args : Array Value) (v : Env → Value) (rd : Wr) (O : List Nat) (wt : Env → Wr) (he : Enters P f)
      (h : ∀ w', Has (rd.map (·.2)) w' → CallsIn F (n - 1) P f args w' fun e w'' => ∃ E, e = .returned (v E) ∧ Step O ((wt E).map (·.2)) w' w'')
  | gn (s : Sem Next) (v : Env → Value) (rd : Wr) (O : List Nat) (wt : Env → Wr)
      (h : ∀ w', Has (rd.map (·.2)) w' → ∃ E w'', (s.run P w' = .ok (.value (v E)) w'' ∨ (s.run P w' = .ok .skip w'' ∧ v E = undef)) ∧ Step O ((wt E).map (·.2)) w' w'')
section
variable {F : Fence} {n : Nat} {P : Program}
def Hint.val : Hint F n P → Env → Value
  | pv v, _ | tv v _ _, _ | tc v _ _ _ _ _, _ | pk v, _ | dead v, _ | ld v _ _, _ | lt v _ _ _ _ _ _, _ => v
  | ls l _ _, _ => .agg l.toArray
  | lr _ cs _ _, _ => .agg cs
  | al _ _ _, E => .pointer (some ⟨E.blk 0, 0, none⟩)
  | bx _ _ _, E => .pointer (some ⟨E.blk 0, 0, none⟩)
  | st _ _ _ _ _ _, _ | sw _ _ _ _ _ _ _ _ _, _ | ss _ _ _ _ _ _, _ | sr _ _ _ _ _ _ _ _ _, _ => undef
  | cl _ _ v _ _ _ _ _, E => v E
  | gn _ v _ _ _ _, E => v E
def at1 (p : Nat) (c : Nat → Option (Nat × Obj)) : Wr := match c p with | some x => [(p, x)] | none => []
def Hint.rd : Hint F n P → (Nat → Option (Nat × Obj)) → Wr
  | ld _ p _, c | ls _ p _, c | lr p _ _ _, c | st p _ _ _ _ _, c | ss p _ _ _ _ _, c => at1 p c
  | lt _ p _ g cs t _, _ => [(p, (g, .cells cs t (0, 0)))]
  | sw p g _ t _ cs _ _ _, _ => [(p, (g, .cells cs t (0, 0)))]
  | sr p g t _ cs _ _ _ _, _ => [(p, (g, .cells cs t (0, 0)))]
  | cl _ _ _ rd _ _ _ _, _ => rd
  | gn _ _ rd _ _ _, _ => rd
  | _, _ => []
def Hint.wt : Hint F n P → Env → Wr
  | st p g _ t _ cs, _ => [(p, (g, .cells cs t (0, 0)))]
  | sw p g _ t _ _ cs' _ _, _ => [(p, (g, .cells cs' t (0, 0)))]
  | ss p g _ t _ cs, _ => [(p, (g, .cells cs t (0, 0)))]
  | sr p g t _ _ cs' _ _ _, _ => [(p, (g, .cells cs' t (0, 0)))]
  | al p T cs, E => [(p, (E.blk 0, .cells cs T (0, 0)))]
  | bx p T v, E => [(p, (E.blk 0, .cells v.cells T (0, 0)))]
  | cl _ _ _ _ _ wt _ _, E => wt E
  | gn _ _ _ _ wt _, E => wt E
  | _, _ => []
def Hint.ob : Hint F n P → List Nat
  | st _ g _ _ _ _ => [g]
  | sw _ g _ _ _ _ _ _ _ => [g]
  | ss _ g _ _ _ _ => [g]
  | sr _ g _ _ _ _ _ _ _ => [g]
  | cl _ _ _ _ O _ _ _ => O
  | gn _ _ _ O _ _ => O
  | _ => []
end

abbrev Eqn := (α : Type) × (α × α)
def sE {α : Type} (a b : α) : Eqn := ⟨α, (a, b)⟩
def sB (b : Bool) : Eqn := ⟨Bool, (b, true)⟩
def Eqn.lhs (e : Eqn) : (α : Type) × α := ⟨e.1, e.2.1⟩
def Eqn.rhs (e : Eqn) : (α : Type) × α := ⟨e.1, e.2.2⟩
theorem Eqn.of {e : Eqn} (h : e.lhs = e.rhs) : e.2.1 = e.2.2 := by
  obtain ⟨α, x, y⟩ := e
  unfold Eqn.lhs Eqn.rhs at h
  simp only [Sigma.mk.injEq, heq_eq_eq, true_and] at h
  exact h
theorem Eqn.all {l : List Eqn} (h : l.map Eqn.lhs = l.map Eqn.rhs) : ∀ e ∈ l, e.2.1 = e.2.2 := by
  induction l with
  | nil => intro e he; simp at he
  | cons x r ih =>
    simp only [List.map_cons, List.cons.injEq] at h
    intro e he
    rcases List.mem_cons.1 he with rfl | he
    · exact Eqn.of h.1
    · exact ih h.2 e he

/-- What each operation waits for, all told. -/
def depL (N : Nat) : List Oper → List (List Nat) → List (List Nat)
  | [], acc => acc
  | o :: os, acc => depL N os (acc ++ [(o.after.toList.foldl (fun l e => if Region.binds .any e && Nat.blt e.on N then (e.on :: (acc.getD e.on [])).foldl (fun l j => if l.contains j then l else j :: l) l else l) [])])
def cdsL : List Oper → List (List (Nat × Bool)) → List (List (Nat × Bool))
  | [], acc => acc
  | o :: os, acc => cdsL os (acc ++ [match o.guard with | none => [] | some (j, b) => acc.getD j [] ++ [(j, b)]])
def toldR {F : Fence} {n : Nat} {P : Program} (DL : List (List Nat)) (CL : List (List (Nat × Bool))) (L0 : Objs) (m : Nat) (hs : Envs → List (Hint F n P)) : Told where
  val η k E := match (hs η)[k]? with | some h => h.val E | none => undef
  rd η k := match (hs η)[k]? with | some h => h.rd (fun p => contAt L0 (fun j => match (hs η)[j]? with | some h => h.wt (η j) | none => []) (fun _ => true) p k) | none => []
  wt η k E := match (hs η)[k]? with | some h => h.wt E | none => []
  ob η k := match (hs η)[k]? with | some h => h.ob | none => []
  cds k := CL.getD k []
  D k := DL.getD k []
  L0 := L0
  m := m

section
variable (L : List Oper) (a : Act) (t : Told) (η : Envs) (k : Nat)
def rhoR : Operand → Value
  | .tmp i => match whoPuts i L 0 with
    | some j => if (t.D k).contains j then t.vs η j else a.eval (.tmp i)
    | none => a.eval (.tmp i)
  | x => a.eval x
def okR (C : List (Nat × Bool)) : Operand → Bool
  | .tmp i => match whoPuts i L 0 with
    | some j => Nat.blt i a.tmps.size && (if (t.D k).contains j then (t.cds j).all (C.contains ·) else (j == k || (t.D j).contains k))
    | none => true
  | _ => true
def opOk (o : Oper) : Bool := noDefer o && match opds o.op with | some l => l.all (okR L a t k (t.cds k)) | none => false
def nodupB : List Nat → Bool
  | [] => true
  | x :: r => !r.contains x && nodupB r
def isB : Value → Bool
  | .bool _ => true
  | _ => false
def aggB (P : Program) (T : TypeId) : Bool := match P.underlying T with | some (.struct _) => true | some (.array _ _) => true | _ => false
def ptrV (g off : Nat) : Value := .pointer (some ⟨g, off, none⟩)
def andE : Bool → Bool → Value → Option Value
  | true, E, .bool X => some (.bool (E && X))
  | _, _, _ => none
def orE : Bool → Bool → Value → Option Value
  | true, E, .bool X => some (.bool (E || X))
  | _, _, _ => none
def pickE (c x y : Operand) : Option Value :=
  let C := match c with | .tmp i => (match whoPuts i L 0 with | some j => if (t.D k).contains j then some j else none | none => none) | _ => none
  let Cx := match C with | some j => t.cds k ++ [(j, true)] | none => t.cds k
  let Cy := match C with | some j => t.cds k ++ [(j, false)] | none => t.cds k
  match rhoR L a t η k c with
  | .bool E => match y with
    | .const (.bool false) => andE (okR L a t k Cx x) E (rhoR L a t η k x)
    | _ => match x with
      | .const (.bool true) => orE (okR L a t k Cy y) E (rhoR L a t η k y)
      | _ => none
  | _ => none
/-- The equations of each kind. -/
def kindE {F : Fence} {n : Nat} {P : Program} (o : Oper) : Hint F n P → List Eqn
  | .pv v => [sB (opOk L a t k o), sE (fun w => (execOp (rhoR L a t η k) o).run P w) (fun w => .ok (.value v) w)]
  | .tv _ s _ => [sB (opOk L a t k o), sE (fun w => (execOp (rhoR L a t η k) o).run P w) (fun w => (vS s).run P w)]
  | .tc _ j E b s _ => [sB (opOk L a t k o), sB ((t.cds k).contains (j, b)), sE (t.vs η j) (.bool E), sE (fun w => (execOp (rhoR L a t η k) o).run P w) (fun w => (vS s).run P w)]
  | .pk v => match o.op with
    | .pick c x y => [sB (okR L a t k (t.cds k) c), sE (pickE L a t η k c x y) (some v)]
    | _ => [sB false]
  | .dead _ => match (t.cds k).getLast? with
    | some (j, b) => [sE (t.vs η j) (.bool (!b))]
    | none => [sB false]
  | .ld v p off => match o.op, t.at η p k with
    | .load T x, some (g, .cells cs _ (0, 0)) => [sB (okR L a t k (t.cds k) x), sE (rhoR L a t η k x) (ptrV g off), sE cs[off]? (some v), sE (fun w => (isAgg T).run P w) (fun w => .ok false w)]
    | _, _ => [sB false]
  | .lt _ _ off g _ _ _ => match o.op with
    | .load T x => [sB (okR L a t k (t.cds k) x), sE (rhoR L a t η k x) (ptrV g off), sE (fun w => (isAgg T).run P w) (fun w => .ok false w)]
    | _ => [sB false]
  | .ls l p off => match o.op, t.at η p k with
    | .load T x, some (g, .cells cs _ (0, 0)) => [sB (okR L a t k (t.cds k) x), sE (rhoR L a t η k x) (ptrV g off), sE ((cs.toList.drop off).take l.length) l, sB (aggB P T), sE ((P.info? T).map (·.size)) (some l.length)]
    | _, _ => [sB false]
  | .lr p cs T _ => match o.op, t.at η p k with
    | .load T' x, some (g, .cells cs' _ (0, 0)) => [sB (okR L a t k (t.cds k) x), sE (rhoR L a t η k x) (ptrV g 0), sE cs' cs, sE T' T, sB (aggB P T)]
    | _, _ => [sB false]
  | .al _ T cs => match o.op with
    | .alloc T' => [sE T' T, sE (fun w => (Instr.alloc T true (.tuple #[])).run P w) (fun w => .ok (ptrV w.heap.size 0) (w.alloc (.cells cs T)))]
    | _ => [sB false]
  | .bx _ T v => match o.op with
    | .box T' x => [sE T' T, sB (okR L a t k (t.cds k) x), sE (rhoR L a t η k x) v]
    | _ => [sB false]
  | .st p g off ty v cs' => match o.op, t.at η p k with
    | .store T x y, some (g', .cells cs ty' (0, 0)) => [sB (okR L a t k (t.cds k) x), sB (okR L a t k (t.cds k) y), sE (g', ty') (g, ty), sE (rhoR L a t η k x) (ptrV g off), sE (rhoR L a t η k y) v, sE (cs.setIfInBounds off v) cs', sB (Nat.blt off cs.size), sB v.oneCell', sE ((P.info? T).map (·.size)) (some 1)]
    | _, _ => [sB false]
  | .sw _ g off _ v _ _ _ _ => match o.op with
    | .store T x y => [sB (okR L a t k (t.cds k) x), sB (okR L a t k (t.cds k) y), sE (rhoR L a t η k x) (ptrV g off), sE (rhoR L a t η k y) v, sB v.oneCell', sE ((P.info? T).map (·.size)) (some 1)]
    | _ => [sB false]
  | .ss p g off ty l cs' => match o.op, t.at η p k with
    | .store T x y, some (g', .cells cs ty' (0, 0)) => [sB (okR L a t k (t.cds k) x), sB (okR L a t k (t.cds k) y), sE (g', ty') (g, ty), sE (rhoR L a t η k x) (ptrV g off), sE (rhoR L a t η k y) (.agg l.toArray), sE (cs.toList.take off ++ l ++ cs.toList.drop (off + l.length)) cs'.toList, sB (Nat.ble (off + l.length) cs.size), sB (l.all (·.oneCell')), sE ((P.info? T).map (·.size)) (some l.length)]
    | _, _ => [sB false]
  | .sr _ g _ T _ cs' _ _ _ => match o.op with
    | .store T' x y => [sB (okR L a t k (t.cds k) x), sB (okR L a t k (t.cds k) y), sE T' T, sE (rhoR L a t η k x) (ptrV g 0), sE (rhoR L a t η k y) (.agg cs')]
    | _ => [sB false]
  | .cl f args _ _ _ _ _ _ => match o.op with
    | .call ⟨.value (.func f'), xs, _⟩ => [sE f' f, sB (xs.toList.all (okR L a t k (t.cds k))), sE (xs.toList.map (rhoR L a t η k)) args.toList]
    | _ => [sB false]
  | .gn s _ _ _ _ _ => [sB (opOk L a t k o), sE (fun w => (execOp (rhoR L a t η k) o).run P w) (fun w => s.run P w)]
/-- The equations that each operation asks for. -/
def genE (o : Oper) : List Eqn :=
  [sE (t.cds k) (match o.guard with | none => [] | some (j, b) => t.cds j ++ [(j, b)]),
   sB (match o.guard with
    | none => true
    | some (j, _) => (t.D k).contains j && isB (t.vs η j) && (match (L.toArray[j]?).bind (·.dst) with | some d => (whoPuts d L 0 == some j) && Nat.blt d a.tmps.size | none => false)),
   sB ((t.cds k).all fun c => (t.D k).contains c.1),
   sB ((t.cds k).isEmpty || (t.wr η k).isEmpty),
   sB (((t.rd η k).map (·.1) ++ (t.wr η k).map (·.1)).all fun p => Nat.blt p t.m && (List.range L.length).all fun j => j == k || (look (t.wr η j) p).isNone || (Nat.blt j k && (t.D k).contains j) || (Nat.blt k j && (t.D j).contains k)),
   sB (nodupB ((t.rd η k).map (·.1))),
   sE ((t.rd η k).map fun x => t.at η x.1 k) ((t.rd η k).map fun x => some x.2),
   sE (t.ob η k) (((t.wr η k).map fun x => (t.at η x.1 k).map (·.1)).filterMap id),
   sE (t.val (mask (t.D k) η) k) (t.val η k),
   sE (t.wt (mask (t.D k) η) k) (t.wt η k),
   sE (t.ob (mask (t.D k) η) k) (t.ob η k)]
end
def allE {F : Fence} {n : Nat} {P : Program} (L : List Oper) (a : Act) (t : Told) (η : Envs) (k : Nat) : List Oper → List (Hint F n P) → List Eqn
  | [], [] => []
  | o :: os, h :: hs => genE L a t η k o ++ kindE L a t η k o h ++ allE L a t η (k + 1) os hs
  | _, _ => [sB false]
theorem allE_get {F : Fence} {n : Nat} {P : Program} {L : List Oper} {a : Act} {t : Told} {η : Envs} : ∀ {k : Nat} {os : List Oper} {hs : List (Hint F n P)}, (∀ e ∈ allE L a t η k os hs, e.2.1 = e.2.2) → ∀ i o, os[i]? = some o → ∃ h, hs[i]? = some h ∧ ∀ e ∈ genE L a t η (k + i) o ++ kindE L a t η (k + i) o h, e.2.1 = e.2.2
  | _, [], _, _, i, o, ho => by simp at ho
  | k, p :: os, [], h, i, o, ho => by
    have := h (sB false) (by simp [allE])
    cases this
  | k, p :: os, g :: hs, h, 0, o, ho => by
    simp only [List.getElem?_cons_zero, Option.some.injEq] at ho
    subst ho
    exact ⟨g, rfl, fun e he => h e (by unfold allE; exact List.mem_append_left _ he)⟩
  | k, p :: os, g :: hs, h, i + 1, o, ho => by
    rw [List.getElem?_cons_succ] at ho
    have := allE_get (k := k + 1) (os := os) (hs := hs) (fun e he => h e (by unfold allE; exact List.mem_append_right _ he)) i o ho
    rwa [show k + 1 + i = k + (i + 1) by omega] at this
end Go.Proofs.Ytkeheickaogpiaa
