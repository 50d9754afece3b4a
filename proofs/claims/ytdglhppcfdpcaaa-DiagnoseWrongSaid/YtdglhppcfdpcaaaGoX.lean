/- Several texts in one: Go Gp Gk. -/
import Derived.Test.YtdglhppcfdpcaaaEeB
import Derived.Test.YtdglhppcfdpcaaaEeC
import Derived.Test.YtdglhppcfdpcaaaEeE
namespace Go.Proofs.Ytdglhppcfdpcaaa.E
open Go Go.RowKit Go.Shelf
set_option linter.unusedVariables false

/-! Hints, short. -/
section
variable (P : Program)
/-- The value of an operation that rests on its operands alone. -/
def runV (o : Oper) (ρ : Operand → Value) : Value := match (execOp ρ o).run P default with
  | .ok (.value v) _ => v
  | _ => undef
def pickV (c x y : Operand) (ρ : Operand → Value) : Value := match ρ c, x, y with
  | .bool E, _, .const (.bool false) => (match ρ x with | .bool X => .bool (E && X) | _ => undef)
  | .bool E, _, _ => (match ρ y with | .bool Y => .bool (E || Y) | _ => undef)
  | _, _, _ => undef
end
/-- Equality of structs, cell by cell. -/
def eqD (P : Program) (b : Bool) (xs ys : List Value) : TD := fun o ρ => match o.op with
  | .binOp op T x y _ => [sE op (match b with | true => .neq | false => .eql), sE (ρ x) (.agg xs.toArray), sE (ρ y) (.agg ys.toArray), sE (aggB P T, P.eqGuardType P.depth T, (kindsT P 8 T).map fun ks => fitB ks xs && fitB ks ys) (true, false, some true)]
  | _ => [sB false]
theorem eq_ok {P : Program} {xs ys : List Value} : TD.ok P (eqD P false xs ys) (.bool (eqCells xs ys)) := by
  intro o ρ he w
  unfold eqD at he
  split at he
  · rename_i op T x y q hop
    simp only [List.mem_cons, List.not_mem_nil, or_false, forall_eq_or_imp, forall_eq, sE] at he
    obtain ⟨rfl, h2, h3, h4⟩ := he
    exact (tbT_ok (P := P) T (fun x y w => bin_eqT (x := x) (y := y) (w := w) h4 rfl)) o ρ (by simp only [tbTD, hop, List.mem_cons, List.not_mem_nil, or_false, forall_eq_or_imp, forall_eq, sE]; exact ⟨trivial, trivial, h2, h3⟩) w
  · exact (sB_false he).elim
theorem ne_ok {P : Program} {xs ys : List Value} : TD.ok P (eqD P true xs ys) (.bool (!eqCells xs ys)) := by
  intro o ρ he w
  unfold eqD at he
  split at he
  · rename_i op T x y q hop
    simp only [List.mem_cons, List.not_mem_nil, or_false, forall_eq_or_imp, forall_eq, sE] at he
    obtain ⟨rfl, h2, h3, h4⟩ := he
    exact (tbT_ok (P := P) T (fun x y w => bin_neT (x := x) (y := y) (w := w) h4 rfl)) o ρ (by simp only [tbTD, hop, List.mem_cons, List.not_mem_nil, or_false, forall_eq_or_imp, forall_eq, sE]; exact ⟨trivial, trivial, h2, h3⟩) w
  · exact (sB_false he).elim
def eqH (P : Program) (o : Oper) (ρ : Operand → Value) : Hint P := match o.op with
  | .binOp .eql _ x y _ => (match aggL (ρ x), aggL (ρ y) with | some xs, some ys => .t (val := .bool (eqCells xs ys)) ⟨_, eq_ok⟩ | _, _ => .d undef)
  | .binOp .neq _ x y _ => (match aggL (ρ x), aggL (ρ y) with | some xs, some ys => .t (val := .bool (!eqCells xs ys)) ⟨_, ne_ok⟩ | _, _ => .d undef)
  | _ => .d undef
inductive Pre (P : Program) : Type 1
  | l (p : Nat)
  | e
  | s (p : Nat)
  | d
  | v (v : Value)
  | t {val : Value} (d : TH P val)
  | u {val : Value} (d : TD) (j : Nat) (E b : Bool) (h : E = b → TD.ok P d val)
  | m {val : Env → Value} (d : MH P val)
  | c {f : FuncId} {args : Array Value} {rd : Ents} {O : List Nat} {wt : Env → Ents} {v : Env → Value} (ps qs : List Nat) (h : Con P f args rd O wt v)
section
variable {P : Program}
def szT (P : Program) (T : TypeId) : Nat := ((P.info? T).map (·.size)).getD 0
def ldH (P : Program) (p : Nat) (T : TypeId) (x : Value) (C : Mem) : Hint P := match C p, adr x with
  | some (.c [(_, .cells cs _ _)]), some (_, off) => (match aggB P T with
    | true => .m (ls p ((cs.toList.drop off).take (szT P T)))
    | false => .m (ld p (cs.getD off undef)))
  | _, _ => .d undef
def stH (P : Program) (p : Nat) (T : TypeId) : Hint P := match aggB P T with
  | true => .m (ss p)
  | false => .m (st p)
def Pre.hint (o : Oper) (ρ : Operand → Value) (C : Mem) : Pre P → Hint P
  | .l p => (match o.op with | .load T x => ldH P p T (ρ x) C | _ => .d undef)
  | .s p => (match o.op with | .store T _ _ => stH P p T | _ => .d undef)
  | .e => eqH P o ρ
  | .d => .d (.bool false)
  | .v x => .v x
  | .t x => .t x
  | .u x j E b h => .u x j E b h
  | .m x => .m x
  | .c ps qs h => .c ps qs h
/-- The hint of an operation of which nothing was said. -/
def autoH (o : Oper) (ρ : Operand → Value) (p : Nat) : Hint P := match o.op with
  | .pick c x y => .k (pickV c x y ρ)
  | .alloc _ => .m (al p)
  | .box _ _ => .m (bx p)
  | _ => .v (runV P o ρ)
def nextP (p : Nat) : Wr → Nat
  | [] => p
  | x :: r => nextP (match Nat.ble p x.1 with | true => x.1 + 1 | false => p) r
def genH (L : List Oper) (a : Sl) (DL : List (List Nat)) (η : Envs) : List Oper → List (Nat × Pre P) → Nat → List Value → Mem → Nat → List (Hint P)
  | [], _, _, _, _, _ => []
  | o :: os, [], k, vs, C, p =>
    (fun ρ => (fun h => h :: genH L a DL η os [] (k + 1) (vs ++ [h.val (η k)]) (updF C (h.wt o ρ C (η k))) (nextP p (h.wt o ρ C (η k)))) (autoH o ρ p)) (rhoV L a (DL.getD k []) vs)
  | o :: os, (j, x) :: r, k, vs, C, p => match Nat.beq j k with
    | true => (fun ρ => (fun h => h :: genH L a DL η os r (k + 1) (vs ++ [h.val (η k)]) (updF C (h.wt o ρ C (η k))) (nextP p (h.wt o ρ C (η k)))) (x.hint o ρ C)) (rhoV L a (DL.getD k []) vs)
    | false => (fun ρ => (fun h => h :: genH L a DL η os ((j, x) :: r) (k + 1) (vs ++ [h.val (η k)]) (updF C (h.wt o ρ C (η k))) (nextP p (h.wt o ρ C (η k)))) (autoH o ρ p)) (rhoV L a (DL.getD k []) vs)
end

/-! Code that is still to be run. -/
inductive It where
  | c (x : Code)
  | b (id : Nat)
  | x (id : Nat)
section
variable (F : Fence) (n : Nat) (P : Program) (Q : Exit → Act → World → Prop)
def runS : List It → Exit → Act → World → Prop
  | [] => Q
  | .c x :: S => Exit.then (x.wpIn F n P (runS S)) (runS S)
  | .b id :: S => Exit.inBlock id (runS S)
  | .x id :: S => Exit.then (runS S (.exit id)) (runS S)
end
/-- Behind a block. -/
def popE (id : Nat) : List It → Option (List It)
  | [] => none
  | .c _ :: S => popE id S
  | .x _ :: S => popE id S
  | .b j :: S => match Nat.beq j id with
    | true => some S
    | false => popE id S
def nfS : Nat → List It → List It
  | 0, S => S
  | n + 1, S => match S with
    | .c (.seq x y) :: S => nfS n (.c x :: .c y :: S)
    | .c (.block id x) :: S => nfS n (.c x :: .b id :: S)
    | .c .skip :: S => nfS n S
    | .c (.label _) :: S => nfS n S
    | .b _ :: S => nfS n S
    | .c (.exit id) :: S => nfS n (.x id :: S)
    | .x id :: S => (match popE id S with
      | some S' => nfS n S'
      | none => .x id :: S)
    | S => S
abbrev nf (S : List It) : List It := nfS 1000 S
section
variable {F : Fence} {n : Nat} {P : Program} {Q : Exit → Act → World → Prop} {a : Act} {w : World}
theorem runS_pop {id : Nat} : ∀ {S S' : List It}, popE id S = some S' → runS F n P Q S' .normal a w → runS F n P Q S (.exit id) a w
  | .c _ :: S, S', h, hr => runS_pop (S := S) h hr
  | .x _ :: S, S', h, hr => runS_pop (S := S) h hr
  | .b j :: S, S', h, hr => by
    unfold popE at h
    show if id = j then runS F n P Q S .normal a w else runS F n P Q S (.exit id) a w
    split at h
    · rename_i hb
      cases h
      rw [if_pos (Nat.eq_of_beq_eq_true hb).symm]
      exact hr
    · rename_i hb
      rw [if_neg (fun e => by rw [e, Nat.beq_refl] at hb; cases hb)]
      exact runS_pop h hr
theorem runS_out {id : Nat} : ∀ {S : List It}, popE id S = none → Q (.exit id) a w → runS F n P Q S (.exit id) a w
  | [], _, hr => hr
  | .c _ :: S, h, hr => runS_out (S := S) h hr
  | .x _ :: S, h, hr => runS_out (S := S) h hr
  | .b j :: S, h, hr => by
    unfold popE at h
    show if id = j then runS F n P Q S .normal a w else runS F n P Q S (.exit id) a w
    split at h
    · cases h
    · rename_i hb
      rw [if_neg (fun e => by rw [e, Nat.beq_refl] at hb; cases hb)]
      exact runS_out h hr
theorem runS_ret : ∀ {S : List It}, Q .ret a w → runS F n P Q S .ret a w
  | [], h => h
  | .c _ :: S, h => runS_ret (S := S) h
  | .b _ :: S, h => runS_ret (S := S) h
  | .x _ :: S, h => runS_ret (S := S) h
theorem runS_nf : ∀ (m : Nat) (S : List It), runS F n P Q (nfS m S) .normal a w → runS F n P Q S .normal a w
  | 0, _, h => h
  | m + 1, S, h => by
    unfold nfS at h
    split at h
    · exact wpIn_seq (runS_nf m _ h)
    · exact wpIn_block (runS_nf m _ h)
    · exact wpIn_skip (runS_nf m _ h)
    · exact wpIn_label (runS_nf m _ h)
    · rename_i S' 
      exact (runS_nf m S' h : runS F n P Q S' .normal a w)
    · rename_i id S'
      exact wpIn_exit (runS_nf m (.x id :: S') h : runS F n P Q S' (.exit id) a w)
    · split at h
      · rename_i hp
        exact runS_pop hp (runS_nf m _ h)
      · exact h
    · exact h
end
/-- Whatever frame and memory there are, of which that much is told: the rest of the run ends well. -/
structure Go (F : Fence) (n : Nat) (P : Program) (R : List Nat) (base : World) (Q : Exit → Act → World → Prop) (S : List It) (a : Sl) (L : Ents) (Ds : List Nat) : Prop where
  out : ∀ b W, Fr a Ds b → OwnE R base (L ++ Ds.map mk) W → runS F n P Q S .normal b W
def tlS (S : List It) : List It := match nf S with | _ :: S => S | [] => []
def opsS (S : List It) : List Oper := match nf S with | .c (.region _ L _) :: _ => L.toList | _ => []
def drS (S : List It) : Bool := match nf S with | .c (.region _ _ d) :: _ => d | _ => false
def isR (S : List It) : Bool := match nf S with | .c (.region _ _ _) :: _ => true | _ => false
def cdS (a : Sl) (S : List It) : Option Bool := match nf S with
  | .c (.cond c _ _) :: _ => (match a.ev c with | .bool E => some E | _ => none)
  | _ => none
def ckS (a : Sl) (S : List It) : Bool := match nf S with
  | .c (.cond (.tmp i) _ _) :: _ => a.kn i
  | _ => true
def thS (S : List It) : List It := match nf S with | .c (.cond _ x _) :: S => .c x :: S | _ => []
def elS (S : List It) : List It := match nf S with | .c (.cond _ _ y) :: S => .c y :: S | _ => []
def bdS (S : List It) : Code := match nf S with | .c (.loop x) :: _ => x | _ => .skip
def isL (S : List It) : Bool := match nf S with | .c (.loop _) :: _ => true | _ => false
/-- Slots that are told no longer. -/
def dropL : List Nat → Fe → Fe
  | [], e => e
  | d :: ds, e => dropL ds (e.filter fun x => !Nat.beq x.1 d)
/-- What a region writes is told anew, or no longer. -/
def freshR (L : List Oper) (e nw : Fe) (dr : List Nat) : Bool := L.all fun o => match o.dst with
  | none => true
  | some d => (lk nw d).isSome || dr.contains d || (lk e d).isNone
/-- What a region tells of a slot. -/
def tellR (L : List Oper) (a : Sl) (t : Told) (η : Envs) (i : Nat) : Option Value := match whoPuts i L 0 with
  | some j => (match Nat.blt i a.sz && (t.cds j).all fun c => litB c.2 (t.vs η c.1) with
    | true => some (t.vs η j)
    | false => none)
  | none => none
theorem lk_append {e e' : Fe} {i : Nat} : lk (e ++ e') i = match lk e i with | some v => some v | none => lk e' i := by
  induction e with
  | nil => rfl
  | cons x r ih =>
    obtain ⟨j, v⟩ := x
    show (match Nat.beq j i with | true => some v | false => lk (r ++ e') i) = match (match Nat.beq j i with | true => some v | false => lk r i) with | some v => some v | none => lk e' i
    cases Nat.beq j i
    · exact ih
    · rfl
theorem lk_filter {p : Nat → Bool} : ∀ {e : Fe} {i : Nat}, lk (e.filter fun x => p x.1) i = if p i then lk e i else none
  | [], i => by split <;> rfl
  | (j, v) :: r, i => by
    rw [List.filter_cons]
    have ih := lk_filter (p := p) (e := r) (i := i)
    by_cases hj : j = i
    · subst hj
      cases hp : p j with
      | true => simp [lk]
      | false =>
        rw [hp] at ih
        simp only [Bool.false_eq_true, if_false] at ih ⊢
        exact ih
    · have hb : Nat.beq j i = false := by
        cases h : Nat.beq j i with
        | false => rfl
        | true => exact absurd (Nat.eq_of_beq_eq_true h) hj
      cases hp : p j with
      | true => simp only [if_true, lk, hb, ih]
      | false => simp only [Bool.false_eq_true, if_false, lk, hb, ih]
theorem lk_drop : ∀ {ds : List Nat} {e : Fe} {i : Nat} {v : Value}, lk (dropL ds e) i = some v → lk e i = some v ∧ i ∉ ds
  | [], _, _, _, h => ⟨h, by simp⟩
  | d :: ds, e, i, v, h => by
    obtain ⟨h1, h2⟩ := lk_drop (ds := ds) h
    rw [lk_filter (p := fun i => !Nat.beq i d)] at h1
    split at h1
    · rename_i hb
      refine ⟨h1, fun hm => ?_⟩
      rcases List.mem_cons.1 hm with rfl | hm
      · simp [Nat.beq_refl] at hb
      · exact h2 hm
    · cases h1
theorem lk_mem {e : Fe} {i : Nat} {v : Value} (h : lk e i = some v) : (i, v) ∈ e := by
  induction e with
  | nil => cases h
  | cons x r ih =>
    obtain ⟨j, u⟩ := x
    unfold lk at h
    split at h
    · rename_i hb
      cases h
      rw [Nat.eq_of_beq_eq_true hb]
      exact List.mem_cons_self
    · exact List.mem_cons_of_mem _ (ih h)
theorem putsH_tsize {xs : Nat → Value} : ∀ (l : List Oper) (k : Nat) (b : Act), (putsH xs l k b).tmps.size = b.tmps.size
  | [], _, _ => rfl
  | o :: os, k, b => by rw [putsH, putsH_tsize os, put_size]
theorem put_defers (b : Act) (x : Option Tmp) (v : Value) : (b.put x v).defers = b.defers := by cases x <;> rfl
theorem putsH_defers {xs : Nat → Value} : ∀ (l : List Oper) (k : Nat) (b : Act), (putsH xs l k b).defers = b.defers
  | [], _, _ => rfl
  | o :: os, k, b => by rw [putsH, putsH_defers os, put_defers]
section
variable {F : Fence} {n : Nat} {P : Program} {R : List Nat} {base : World} {Q : Exit → Act → World → Prop} {S : List It} {a : Sl} {sz : Nat} {es : Fe} {L : Ents} {Ds : List Nat}
/-- The region at the head, told. -/
def hsR (S : List It) (a : Sl) (L0 : Ents) (hs : Envs → List (Nat × Pre P)) (η : Envs) : List (Hint P) := genH (opsS S) a (depR (drS S) (opsS S)) η (opsS S) (hs η) 0 [] (fun p => L0[p]?) L0.length
def tR (S : List It) (a : Sl) (L0 : Ents) (m : Nat) (hs : Envs → List (Nat × Pre P)) : Told := toldE (opsS S) a (depR (drS S) (opsS S)) (cdsL (opsS S) []) L0 m (hsR S a L0 hs)
abbrev mR (Le : Envs → Ents → Ents) (L : Ents) : Nat := (Le (fun _ => Env.zero) L).length
theorem isR_spec (h : isR S = true) : ∃ id d, nf S = .c (.region id (opsS S).toArray d) :: tlS S ∧ drS S = d := by
  unfold isR at h
  unfold opsS tlS drS
  split at h
  · rename_i id ops d S' e
    rw [e]
    exact ⟨id, d, rfl, rfl⟩
  · cases h
theorem litB_spec {b : Bool} {v : Value} (h : litB b v = true) : v = .bool b := by
  unfold litB at h
  split at h
  · rw [eq_of_beq h]
  · cases h
theorem Fr.region {b : Act} (hb : Fr a Ds b) {LL : List Oper} {t : Told} {η : Envs} {xs : Nat → Value} {e : Fe} {dr : List Nat} (hx : ∀ i, i < LL.length → t.Is η i (xs i)) (he : e.map (fun x => tellR LL a t η x.1) = e.map fun x => some x.2) (hd : freshR LL a.e e dr = true) :
    Fr ⟨a.sz, e ++ dropL dr a.e⟩ Ds (putsH xs LL 0 b) := by
  refine ⟨(putsH_tsize _ _ _).trans hb.size, fun i v h => ?_, (putsH_defers _ _ _).trans hb.defers⟩
  have hev := putsH_eval (xs := xs) i LL 0 b
  show (putsH xs LL 0 b).eval (.tmp i) = v
  rw [hev]
  simp only [lk_append] at h
  cases h1 : lk e i with
  | some u =>
    rw [h1] at h
    cases h
    have hm := lk_mem h1
    have h2 : tellR LL a t η i = some v := by
      obtain ⟨q, hq, e2⟩ := List.getElem_of_mem hm
      have := congrArg (fun z => z[q]?) he
      simpa [hq, e2] using this
    unfold tellR at h2
    cases hw : whoPuts i LL 0 with
    | none => rw [hw] at h2; cases h2
    | some j =>
      rw [hw] at h2
      simp only at h2 ⊢
      split at h2
      · rename_i hc
        rw [Bool.and_eq_true] at hc
        rw [hb.size, if_pos (Nat.blt_eq ▸ hc.1)]
        cases h2
        rcases hx j (whoPuts_lt hw) with ⟨_, h3⟩ | ⟨h3, _⟩
        · exact h3
        · exact absurd (fun c hcm => litB_spec (List.all_eq_true.1 hc.2 c hcm)) h3
      · cases h2
  | none =>
    rw [h1] at h
    simp only at h
    obtain ⟨h3, h4⟩ := lk_drop h
    cases hw : whoPuts i LL 0 with
    | none => exact hb.get i v h3
    | some j =>
      exfalso
      have h5 := (whoPuts_dst hw).2
      rw [Nat.sub_zero] at h5
      cases ho : LL[j]? with
      | none => rw [ho] at h5; cases h5
      | some o =>
        rw [ho] at h5
        have h6 := List.all_eq_true.1 hd o (List.mem_of_getElem? ho)
        rw [show o.dst = some i from h5] at h6
        simp only [h1, h3, Option.isSome_none, Option.isNone_some, Bool.or_false, Bool.false_or] at h6
        exact h4 (by simpa using h6)
/-- A region: its operations told (by their numbers), the slots that are told behind it, the slots that are told no longer, the entries behind it. -/
theorem rr [hF : LiftF F] (hs : Envs → List (Nat × Pre P)) (nw : Envs → Fe) (dr : List Nat) (Le : Envs → Ents → Ents) (hk : ∀ η, Go F n P R base Q (tlS S) ⟨sz, nw η ++ dropL dr es⟩ (Le η L) Ds)
    (hm : P.follows .mixedOrders = true := by kernel_rfl)
    (he : ∀ η, (isR S, (allE (opsS S) ⟨sz, es⟩ (tR S ⟨sz, es⟩ L (mR Le L) hs) η 0 (opsS S) (hsR S ⟨sz, es⟩ L hs η)).map Eqn.lhs, shapeB (drS S) (opsS S) (fun k => (depR (drS S) (opsS S)).getD k []), (List.range (mR Le L)).map (fun p => (tR S ⟨sz, es⟩ L (mR Le L) hs).at η p (opsS S).length), (nw η).map (fun x => tellR (opsS S) ⟨sz, es⟩ (tR S ⟨sz, es⟩ L (mR Le L) hs) η x.1), freshR (opsS S) es (nw η) dr) =
      (true, (allE (opsS S) ⟨sz, es⟩ (tR S ⟨sz, es⟩ L (mR Le L) hs) η 0 (opsS S) (hsR S ⟨sz, es⟩ L hs η)).map Eqn.rhs, true, (Le η L).map some, (nw η).map (fun x => some x.2), true) := by intro _; kernel_rfl) : Go F n P R base Q S ⟨sz, es⟩ L Ds := by
  have h0 := congrArg (fun x => x.1) (he fun _ => Env.zero)
  have h1 := fun η => congrArg (fun x => x.2.1) (he η)
  have h2 := congrArg (fun x => x.2.2.1) (he fun _ => Env.zero)
  have h4 := fun η => congrArg (fun x => x.2.2.2.1) (he η)
  have h5 := fun η => congrArg (fun x => x.2.2.2.2.1) (he η)
  have h6 := fun η => congrArg (fun x => x.2.2.2.2.2) (he η)
  simp only at h0 h1 h2 h4 h5 h6
  obtain ⟨id, d, hS, hd⟩ := isR_spec h0
  subst hd
  refine ⟨fun b W hb hO => runS_nf 1000 S ?_⟩
  rw [show nfS 1000 S = _ from hS]
  show (Code.region id (opsS S).toArray (drS S)).wpIn F n P (runS F n P Q (tlS S)) b W
  obtain ⟨R1, OC, OW⟩ := hO.seg
  refine wpIn_region_reOk (t := tR S ⟨sz, es⟩ L (mR Le L) hs) (R := R1) (base := W) hm (reOk_of hb h1) hF.free h2 OW (fun η => Le η L) h4 ?_
  intro η xs w' hx hO2
  exact (hk η).out _ _ (hb.region hx (h5 η) (h6 η)) (OC.out.whole hO2.out)
end
end Go.Proofs.Ytdglhppcfdpcaaa.E
namespace Go.Proofs.Ytdglhppcfdpcaaa.E
open Go Go.RowKit Go.Shelf
set_option linter.unusedVariables false
section
variable {F : Fence} {n : Nat} {P : Program} {R : List Nat} {base : World} {Q : Exit → Act → World → Prop} {S : List It} {a : Sl} {sz : Nat} {es : Fe} {L : Ents} {Ds : List Nat}

/-! Short words. -/
abbrev i6 (x : Int) : Value := .int .i64 x
abbrev u6 (x : Int) : Value := .int .u64 x
abbrev u1 (x : Int) : Value := .int .u8 x
abbrev pt (g o : Nat) : Value := .pointer (some ⟨g, o, none⟩)
theorem lenB {α : Type} {xs ys : List α} {n : Nat} {b : Bool} (h1 : xs.length = n) (h2 : ys.length = n) : (bif b then xs else ys).length = n := by cases b; exact h2; exact h1
/-! Tests. -/
theorem cd_spec {E : Bool} (h : cdS a S = some E) (hk : ckS a S = true) : ∃ c x y S', nf S = .c (.cond c x y) :: S' ∧ thS S = .c x :: S' ∧ elS S = .c y :: S' ∧ (∀ {b : Act}, Fr a Ds b → b.eval c = .bool E) := by
  unfold cdS at h
  unfold ckS at hk
  unfold thS elS
  split at h
  · rename_i c x y S' e
    rw [e] at hk ⊢
    split at h
    · rename_i E' hE
      cases h
      refine ⟨c, x, y, S', rfl, rfl, rfl, fun {b} hb => ?_⟩
      rw [hb.ev fun i hi => by subst hi; exact hk]
      exact hE
    · cases h
  · cases h
theorem cB (E : Bool) (ht : E = true → Go F n P R base Q (thS S) ⟨sz, es⟩ L Ds) (hf : E = false → Go F n P R base Q (elS S) ⟨sz, es⟩ L Ds) (hc : (cdS ⟨sz, es⟩ S, ckS ⟨sz, es⟩ S) = (some E, true) := by kernel_rfl) : Go F n P R base Q S ⟨sz, es⟩ L Ds := by
  obtain ⟨c, x, y, S', h1, h2, h3, h4⟩ := cd_spec (Ds := Ds) (congrArg (·.1) hc) (congrArg (·.2) hc)
  refine ⟨fun b W hb hO => runS_nf 1000 S ?_⟩
  rw [show nfS 1000 S = _ from h1]
  exact wpIn_cond_split (h4 hb) (fun e => by have := (ht e).out b W hb hO; rw [h2] at this; exact this) (fun e => by have := (hf e).out b W hb hO; rw [h3] at this; exact this)
theorem cT (E : Bool) (hE : E = true) (ht : Go F n P R base Q (thS S) ⟨sz, es⟩ L Ds) (hc : (cdS ⟨sz, es⟩ S, ckS ⟨sz, es⟩ S) = (some E, true) := by kernel_rfl) : Go F n P R base Q S ⟨sz, es⟩ L Ds := cB E (fun _ => ht) (fun h => by rw [hE] at h; cases h) hc
theorem cF (E : Bool) (hE : E = false) (hf : Go F n P R base Q (elS S) ⟨sz, es⟩ L Ds) (hc : (cdS ⟨sz, es⟩ S, ckS ⟨sz, es⟩ S) = (some E, true) := by kernel_rfl) : Go F n P R base Q S ⟨sz, es⟩ L Ds := cB E (fun h => by rw [hE] at h; cases h) (fun _ => hf) hc
theorem cLt (x y : Int) (ht : (decide (x < y)) = true → x < y → Go F n P R base Q (thS S) ⟨sz, es⟩ L Ds) (hf : (decide (x < y)) = false → y ≤ x → Go F n P R base Q (elS S) ⟨sz, es⟩ L Ds) (hc : (cdS ⟨sz, es⟩ S, ckS ⟨sz, es⟩ S) = (some (decide (x < y)), true) := by kernel_rfl) : Go F n P R base Q S ⟨sz, es⟩ L Ds :=
  cB _ (fun h => ht h (of_decide_eq_true h)) (fun h => hf h (Int.not_lt.1 (of_decide_eq_false h))) hc
theorem cLe (x y : Int) (ht : (decide (x ≤ y)) = true → x ≤ y → Go F n P R base Q (thS S) ⟨sz, es⟩ L Ds) (hf : (decide (x ≤ y)) = false → y < x → Go F n P R base Q (elS S) ⟨sz, es⟩ L Ds) (hc : (cdS ⟨sz, es⟩ S, ckS ⟨sz, es⟩ S) = (some (decide (x ≤ y)), true) := by kernel_rfl) : Go F n P R base Q S ⟨sz, es⟩ L Ds :=
  cB _ (fun h => ht h (of_decide_eq_true h)) (fun h => hf h (Int.not_le.1 (of_decide_eq_false h))) hc
theorem cEq (x y : Int) (ht : (x == y) = true → x = y → Go F n P R base Q (thS S) ⟨sz, es⟩ L Ds) (hf : (x == y) = false → x ≠ y → Go F n P R base Q (elS S) ⟨sz, es⟩ L Ds) (hc : (cdS ⟨sz, es⟩ S, ckS ⟨sz, es⟩ S) = (some (x == y), true) := by kernel_rfl) : Go F n P R base Q S ⟨sz, es⟩ L Ds :=
  cB _ (fun h => ht h (eq_of_beq h)) (fun h => hf h (ne_of_beq_false h)) hc
theorem cNe (x y : Int) (ht : (!(x == y)) = true → x ≠ y → Go F n P R base Q (thS S) ⟨sz, es⟩ L Ds) (hf : (!(x == y)) = false → x = y → Go F n P R base Q (elS S) ⟨sz, es⟩ L Ds) (hc : (cdS ⟨sz, es⟩ S, ckS ⟨sz, es⟩ S) = (some (!(x == y)), true) := by kernel_rfl) : Go F n P R base Q S ⟨sz, es⟩ L Ds :=
  cB _ (fun h => ht h (fun e => by subst e; simp at h)) (fun h => hf h (by simpa using h)) hc

/-! What is told is told otherwise. -/
theorem Fr.told {b : Act} (hb : Fr a Ds b) {e' : Fe} (he : (e'.map fun x => lk a.e x.1) = e'.map fun x => some x.2) : Fr ⟨a.sz, e'⟩ Ds b := by
  refine ⟨hb.size, fun i v h => ?_, hb.defers⟩
  obtain ⟨q, hq, e2⟩ := List.getElem_of_mem (lk_mem h)
  have := congrArg (fun z => z[q]?) he
  exact hb.get i v (by simpa [hq, e2] using this)
theorem Fr.more {b : Act} (hb : Fr a Ds b) {e' : Fe} (he : (e'.map fun x => lk a.e x.1) = e'.map fun x => some x.2) : Fr ⟨a.sz, e' ++ a.e⟩ Ds b := by
  have h1 := hb.told he
  refine ⟨hb.size, fun i v h => ?_, hb.defers⟩
  simp only [lk_append] at h
  cases h2 : lk e' i with
  | none => rw [h2] at h; exact hb.get i v h
  | some u => rw [h2] at h; cases h; exact h1.get i v h2
theorem OwnE.under {L' : Ents} {W : World} (hO : OwnE R base (L ++ Ds.map mk) W) (h : ∀ {R1 : List Nat}, OwnE R1 W L W → OwnE R1 W L' W) : OwnE R base (L' ++ Ds.map mk) W := by
  obtain ⟨R1, OC, OW⟩ := hO.seg
  exact OC.out.whole (h OW.out)
/-- Entries by other words. -/
theorem cl (L' : Ents) (hL : L = L') (hk : Go F n P R base Q S ⟨sz, es⟩ L' Ds) : Go F n P R base Q S ⟨sz, es⟩ L Ds := by subst hL; exact hk
/-- Entries put together, or taken for weaker ones. -/
theorem cg (gs : List (List Nat)) {Ns : List Ents} (L' : Ents) (hs : SatG Ns L') (hk : Go F n P R base Q S ⟨sz, es⟩ L' Ds) (he : (nodupB gs.flatten, gs.map fun g => g.map fun p => L[p]?) = (true, Ns.map fun N => N.map some) := by kernel_rfl) : Go F n P R base Q S ⟨sz, es⟩ L Ds :=
  ⟨fun b W hb hO => hk.out b W hb (hO.under fun h => h.re gs he hs)⟩
/-- A pack, opened. -/
theorem co (k : Nat) {T : Ents → Prop} (hk : ∀ L', T L' → Go F n P R base Q S ⟨sz, es⟩ (L.set k (.c []) ++ L') Ds) (h : L[k]? = some (.p (PkE T)) := by kernel_rfl) : Go F n P R base Q S ⟨sz, es⟩ L Ds := by
  refine ⟨fun b W hb hO => ?_⟩
  obtain ⟨R1, OC, OW⟩ := hO.seg
  obtain ⟨L', hT, h2⟩ := OW.out.openE k h
  exact (hk L' hT).out b W hb (OC.out.whole h2)
/-- An entry taken for a weaker one. -/
theorem cw (k : Nat) (x y : Ent) (h : ∀ bs, x.sat bs → y.sat bs) (hk : Go F n P R base Q S ⟨sz, es⟩ (L.set k y) Ds) (hx : L[k]? = some x := by kernel_rfl) : Go F n P R base Q S ⟨sz, es⟩ L Ds :=
  ⟨fun b W hb hO => hk.out b W hb (hO.under fun ho => ho.weak k hx h)⟩
/-- A pack, its blocks told. -/
theorem ck (k : Nat) (T : Objs → Prop) (hk : ∀ bs, T bs → Go F n P R base Q S ⟨sz, es⟩ (L.set k (.c bs)) Ds) (h : L[k]? = some (.p T) := by kernel_rfl) : Go F n P R base Q S ⟨sz, es⟩ L Ds := by
  refine ⟨fun b W hb hO => ?_⟩
  obtain ⟨R1, OC, OW⟩ := hO.seg
  obtain ⟨bs, hT, h2⟩ := OW.out.open k h
  exact (hk bs hT).out b W hb (OC.out.whole h2)
/-- A nil slice's entry. -/
theorem cn {α : Type} (en : α → List Value) (z : List Value) (T : TypeId) (hk : Go F n P R base Q S ⟨sz, es⟩ (L ++ [.p (SlE en z T (.slice none 0 0) ([] : List α))]) Ds) : Go F n P R base Q S ⟨sz, es⟩ L Ds :=
  ⟨fun b W hb hO => hk.out b W hb (hO.under fun h => h.nilS en z T)⟩
end

/-! Loops. -/
/-- The slots that code may write. -/
def dstO : List Oper → List Nat
  | [] => []
  | o :: os => match o.dst with
    | some d => d :: dstO os
    | none => dstO os
def dstC : Code → List Nat
  | .region _ L _ => dstO L.toList
  | .seq x y => dstC x ++ dstC y
  | .cond _ x y => dstC x ++ dstC y
  | .block _ x => dstC x
  | .loop x => dstC x
  | .scope x => dstC x
  | .rangeFunc _ ps x y => ps.toList ++ (dstC x ++ dstC y)
  | _ => []
/-- The slots that stay. -/
def stayE (S : List It) (e : Fe) : Fe := (fun ds => e.filter fun x => !List.any ds (Nat.beq x.1)) (dstC (bdS S))
section
variable (F : Fence) (n : Nat) (P : Program) (R : List Nat) (base : World) {κ : Type}
/-- What holds at a round's beginning; how a round may end. -/
def lpI (I : κ → Prop) (e : κ → Fe) (L : κ → Ents) (D : κ → List Nat) (m : κ → Nat) (sz : Nat) (st : Fe) (j : Nat) (b : Act) (W : World) : Prop := ∃ k, I k ∧ m k < j ∧ Fr ⟨sz, e k ++ st⟩ (D k) b ∧ OwnE R base (L k ++ (D k).map mk) W
def lpQ (Q : Exit → Act → World → Prop) (S : List It) (I : κ → Prop) (e : κ → Fe) (L : κ → Ents) (D : κ → List Nat) (m : κ → Nat) (sz : Nat) (st : Fe) (j : Nat) : Exit → Act → World → Prop
  | .normal, b, W => lpI R base I e L D m sz st j b W
  | e, b, W => runS F n P Q S e b W
end
section
variable {F : Fence} {n : Nat} {P : Program} {R : List Nat} {base : World} {Q : Exit → Act → World → Prop} {S : List It} {a : Sl} {sz : Nat} {es : Fe} {L : Ents} {Ds : List Nat} {κ : Type}
theorem least {J : Nat → Prop} (h : ∃ j, J j) : ∃ j, J j ∧ ∀ i, i < j → ¬ J i := by
  classical
  obtain ⟨j, hj⟩ := h
  induction j using Nat.strongRecOn with
  | _ j ih =>
    by_cases hl : ∃ i, i < j ∧ J i
    · obtain ⟨i, h1, h2⟩ := hl
      exact ih i h1 h2
    · exact ⟨j, hj, fun i hi hJ => hl ⟨i, hi, hJ⟩⟩
theorem isL_spec (h : isL S = true) : nf S = .c (.loop (bdS S)) :: tlS S := by
  unfold isL at h
  unfold bdS tlS
  split at h
  · rename_i x S' e
    rw [e]
  · cases h
theorem Fr.stay {b : Act} (hb : Fr a Ds b) {e' : Fe} (he : (e'.map fun x => lk a.e x.1) = e'.map fun x => some x.2) : Fr ⟨a.sz, e' ++ stayE S a.e⟩ Ds b := by
  have h1 := hb.told he
  refine ⟨hb.size, fun i v h => ?_, hb.defers⟩
  simp only [lk_append] at h
  cases h2 : lk e' i with
  | none =>
    rw [h2] at h
    simp only at h
    unfold stayE at h
    rw [lk_filter (p := fun i => !List.any (dstC (bdS S)) (Nat.beq i))] at h
    split at h
    · exact hb.get i v h
    · cases h
  | some u => rw [h2] at h; cases h; exact h1.get i v h2
/-- A loop. -/
theorem lp (I : κ → Prop) (e : κ → Fe) (LI : κ → Ents) (D : κ → List Nat) (m : κ → Nat) (k0 : κ) (h0 : I k0) (he : ((e k0).map fun x => lk es x.1) = (e k0).map fun x => some x.2) (hL : L = LI k0) (hD : Ds = D k0)
    (hr : ∀ k, I k → Go F n P R base (lpQ F n P R base Q (tlS S) I e LI D m sz (stayE S es) (m k)) [.c (bdS S)] ⟨sz, e k ++ stayE S es⟩ (LI k) (D k)) (hS : isL S = true) : Go F n P R base Q S ⟨sz, es⟩ L Ds := by
  classical
  subst hL hD
  refine ⟨fun b W hb hO => runS_nf 1000 S ?_⟩
  rw [show nfS 1000 S = _ from isL_spec hS]
  show (Code.loop (bdS S)).wpIn F n P (runS F n P Q (tlS S)) b W
  let J : Nat → Act → World → Prop := lpI R base I e LI D m sz (stayE S es)
  let μ : Act → World → Nat := fun b W => if h : ∃ j, J j b W then Classical.choose (least h) else 0
  have hμ : ∀ b W, (∃ j, J j b W) → J (μ b W) b W ∧ ∀ i, i < μ b W → ¬ J i b W := by
    intro b W h
    have e : μ b W = Classical.choose (least h) := dif_pos h
    rw [e]
    exact Classical.choose_spec (least h)
  refine wpIn_loop (fun b W => ∃ j, J j b W) μ ⟨m k0 + 1, k0, h0, Nat.lt_succ_self _, Fr.stay (a := ⟨sz, es⟩) hb he, hO⟩ fun b W hI => ?_
  obtain ⟨k, hk, hm, hf, hO⟩ := (hμ b W hI).1
  refine wpIn_mono (show (bdS S).wpIn F n P _ b W from (hr k hk).out b W hf hO) fun e b' W' he => ?_
  cases e with
  | normal =>
    have hJ : J (m k) b' W' := he
    exact ⟨⟨_, hJ⟩, Nat.lt_of_le_of_lt (Nat.le_of_not_lt fun hl => (hμ b' W' ⟨_, hJ⟩).2 _ hl hJ) hm⟩
  | _ => exact he
/-- A loop, or a test's way, is left. -/
def outS (S : List It) (S0 : List It) : Option (List It) := match nf S with
  | .x id :: S' => (match popE id S' with
    | none => some (.x id :: S0)
    | some _ => none)
  | _ => none
theorem out_spec {Q' : Exit → Act → World → Prop} {S0 S1 : List It} {b : Act} {W : World} (h1 : outS S S0 = some S1) (hk : runS F n P Q S1 .normal b W) (hQ : ∀ id, Q' (.exit id) b W = runS F n P Q S0 (.exit id) b W) : runS F n P Q' S .normal b W := by
  refine runS_nf 1000 S ?_
  unfold outS at h1
  split at h1
  · rename_i id S' e
    rw [show nfS 1000 S = _ from e]
    split at h1
    · rename_i hp
      cases h1
      exact runS_out hp (by rw [hQ]; exact hk)
    · cases h1
  · cases h1
theorem lxK {I : κ → Prop} {e : κ → Fe} {LI : κ → Ents} {D : κ → List Nat} {m : κ → Nat} {S0 : List It} {sz0 : Nat} {st : Fe} {j : Nat} (hk : Go F n P R base Q ((outS S S0).getD []) ⟨sz, es⟩ L Ds) (hS : (outS S S0).isSome = true := by kernel_rfl) : Go F n P R base (lpQ F n P R base Q S0 I e LI D m sz0 st j) S ⟨sz, es⟩ L Ds := by
  obtain ⟨S1, h1⟩ := Option.isSome_iff_exists.1 hS
  rw [h1] at hk
  exact ⟨fun b W hb hO => out_spec h1 (hk.out b W hb hO) fun _ => rfl⟩
/-! Loops by a counter, slices' values, marks; rounds' ends. -/
/-- Where a return leads. -/
class Rt (Q : Exit → Act → World → Prop) (Q0 : outParam (Exit → Act → World → Prop)) : Prop where
  out : ∀ b W, Q0 .ret b W → Q .ret b W
instance {Q : Exit → Act → World → Prop} : Rt Q Q := ⟨fun _ _ h => h⟩
def lpQ0 (F : Fence) (n : Nat) (P : Program) (R : List Nat) (base : World) (Q : Exit → Act → World → Prop) (S : List It) (I : Nat → Prop) (e : Nat → Fe) (LI : Nat → Ents) (m : Nat → Nat) (Ds0 : List Nat) (sz : Nat) (st : Fe) (j : Nat) : Exit → Act → World → Prop := lpQ (κ := Nat) F n P R base Q S I e LI (fun _ => Ds0) m sz st j
theorem lq (I : Nat → Prop) (e : Nat → Fe) (LI : Nat → Ents → Ents) (m : Nat → Nat) (k0 : Nat) (h0 : I k0) (he : ((e k0).map fun x => lk es x.1) = (e k0).map fun x => some x.2) (hL : L = LI k0 L)
    (hr : ∀ (k : Nat), I k → Go F n P R base (lpQ0 F n P R base Q (tlS S) I e (fun k => LI k L) m Ds sz (stayE S es) (m k)) [.c (bdS S)] ⟨sz, e k ++ stayE S es⟩ (LI k L) Ds) (hS : isL S = true := by kernel_rfl) : Go F n P R base Q S ⟨sz, es⟩ L Ds :=
  lp (κ := Nat) I e (fun x => LI x L) (fun _ => Ds) m k0 h0 he hL rfl (fun x => hr x) hS
theorem le {I : Nat → Prop} {e : Nat → Fe} {LI : Nat → Ents} {m : Nat → Nat} {S0 : List It} {sz0 : Nat} {st : Fe} {Ds0 : List Nat} {j : Nat} (k : Nat) (hI : I k) (hm : m k < j) (he : ((e k ++ st).map fun x => lk es x.1) = (e k ++ st).map fun x => some x.2) (ps : List Nat) (hL : (nodupB (ps.map fun p => [p]).flatten, (ps.map fun p => [p]).map fun g => g.map fun p => L[p]?) = (true, ((LI k).map fun x => [x]).map fun N => N.map some)) (hS : (nf S).isEmpty = true := by kernel_rfl) (hz : sz = sz0 := by rfl) (hD : Ds = Ds0 := by rfl) :
    Go F n P R base (lpQ0 F n P R base Q S0 I e LI m Ds0 sz0 st j) S ⟨sz, es⟩ L Ds := by
  subst hz hD
  refine ⟨fun b W hb hO => runS_nf 1000 S ?_⟩
  rw [show nfS 1000 S = [] from List.isEmpty_iff.1 hS]
  exact ⟨k, hI, hm, Fr.told (a := ⟨sz, es⟩) hb he, hO.under fun h => h.pick ps _ hL⟩
theorem lx {I : Nat → Prop} {e : Nat → Fe} {LI : Nat → Ents} {m : Nat → Nat} {S0 : List It} {sz0 : Nat} {st : Fe} {Ds0 : List Nat} {j : Nat} (hk : Go F n P R base Q ((outS S S0).getD []) ⟨sz, es⟩ L Ds) (hS : (outS S S0).isSome = true := by kernel_rfl) : Go F n P R base (lpQ0 F n P R base Q S0 I e LI m Ds0 sz0 st j) S ⟨sz, es⟩ L Ds := lxK hk hS
instance {F : Fence} {n : Nat} {P : Program} {R : List Nat} {base : World} {Q Q0 : Exit → Act → World → Prop} {I : Nat → Prop} {e : Nat → Fe} {LI : Nat → Ents} {m : Nat → Nat} {S0 : List It} {sz0 : Nat} {st : Fe} {Ds0 : List Nat} {j : Nat} [h : Rt Q Q0] : Rt (lpQ0 F n P R base Q S0 I e LI m Ds0 sz0 st j) Q0 := ⟨fun b W hq => runS_ret (S := S0) (h.out b W hq)⟩
def lpQ1 (F : Fence) (n : Nat) (P : Program) (R : List Nat) (base : World) (Q : Exit → Act → World → Prop) (S : List It) (I : Nat → Value → Prop) (e : Nat → Value → Fe) (LI : Nat → Value → Ents) (m : Nat → Value → Nat) (Ds0 : List Nat) (sz : Nat) (st : Fe) (j : Nat) : Exit → Act → World → Prop := lpQ (κ := Nat × Value) F n P R base Q S (fun x => I x.1 x.2) (fun x => e x.1 x.2) (fun x => LI x.1 x.2) (fun _ => Ds0) (fun x => m x.1 x.2) sz st j
theorem lq1 (I : Nat → Value → Prop) (e : Nat → Value → Fe) (LI : Nat → Value → Ents → Ents) (m : Nat → Value → Nat) (k0 : Nat) (u0 : Value) (h0 : I k0 u0) (he : ((e k0 u0).map fun x => lk es x.1) = (e k0 u0).map fun x => some x.2) (hL : L = LI k0 u0 L)
    (hr : ∀ (k : Nat) (u : Value), I k u → Go F n P R base (lpQ1 F n P R base Q (tlS S) I e (fun k u => LI k u L) m Ds sz (stayE S es) (m k u)) [.c (bdS S)] ⟨sz, e k u ++ stayE S es⟩ (LI k u L) Ds) (hS : isL S = true := by kernel_rfl) : Go F n P R base Q S ⟨sz, es⟩ L Ds :=
  lp (κ := Nat × Value) (fun x => I x.1 x.2) (fun x => e x.1 x.2) (fun x => LI x.1 x.2 L) (fun _ => Ds) (fun x => m x.1 x.2) (k0, u0) h0 he hL rfl (fun x => hr x.1 x.2) hS
theorem le1 {I : Nat → Value → Prop} {e : Nat → Value → Fe} {LI : Nat → Value → Ents} {m : Nat → Value → Nat} {S0 : List It} {sz0 : Nat} {st : Fe} {Ds0 : List Nat} {j : Nat} (k : Nat) (u : Value) (hI : I k u) (hm : m k u < j) (he : ((e k u ++ st).map fun x => lk es x.1) = (e k u ++ st).map fun x => some x.2) (ps : List Nat) (hL : (nodupB (ps.map fun p => [p]).flatten, (ps.map fun p => [p]).map fun g => g.map fun p => L[p]?) = (true, ((LI k u).map fun x => [x]).map fun N => N.map some)) (hS : (nf S).isEmpty = true := by kernel_rfl) (hz : sz = sz0 := by rfl) (hD : Ds = Ds0 := by rfl) :
    Go F n P R base (lpQ1 F n P R base Q S0 I e LI m Ds0 sz0 st j) S ⟨sz, es⟩ L Ds := by
  subst hz hD
  refine ⟨fun b W hb hO => runS_nf 1000 S ?_⟩
  rw [show nfS 1000 S = [] from List.isEmpty_iff.1 hS]
  exact ⟨(k, u), hI, hm, Fr.told (a := ⟨sz, es⟩) hb he, hO.under fun h => h.pick ps _ hL⟩
theorem lx1 {I : Nat → Value → Prop} {e : Nat → Value → Fe} {LI : Nat → Value → Ents} {m : Nat → Value → Nat} {S0 : List It} {sz0 : Nat} {st : Fe} {Ds0 : List Nat} {j : Nat} (hk : Go F n P R base Q ((outS S S0).getD []) ⟨sz, es⟩ L Ds) (hS : (outS S S0).isSome = true := by kernel_rfl) : Go F n P R base (lpQ1 F n P R base Q S0 I e LI m Ds0 sz0 st j) S ⟨sz, es⟩ L Ds := lxK hk hS
instance {F : Fence} {n : Nat} {P : Program} {R : List Nat} {base : World} {Q Q0 : Exit → Act → World → Prop} {I : Nat → Value → Prop} {e : Nat → Value → Fe} {LI : Nat → Value → Ents} {m : Nat → Value → Nat} {S0 : List It} {sz0 : Nat} {st : Fe} {Ds0 : List Nat} {j : Nat} [h : Rt Q Q0] : Rt (lpQ1 F n P R base Q S0 I e LI m Ds0 sz0 st j) Q0 := ⟨fun b W hq => runS_ret (S := S0) (h.out b W hq)⟩
def lpQ2 (F : Fence) (n : Nat) (P : Program) (R : List Nat) (base : World) (Q : Exit → Act → World → Prop) (S : List It) (I : Nat → Value → Value → Prop) (e : Nat → Value → Value → Fe) (LI : Nat → Value → Value → Ents) (m : Nat → Value → Value → Nat) (Ds0 : List Nat) (sz : Nat) (st : Fe) (j : Nat) : Exit → Act → World → Prop := lpQ (κ := Nat × Value × Value) F n P R base Q S (fun x => I x.1 x.2.1 x.2.2) (fun x => e x.1 x.2.1 x.2.2) (fun x => LI x.1 x.2.1 x.2.2) (fun _ => Ds0) (fun x => m x.1 x.2.1 x.2.2) sz st j
instance {F : Fence} {n : Nat} {P : Program} {R : List Nat} {base : World} {Q Q0 : Exit → Act → World → Prop} {I : Nat → Value → Value → Prop} {e : Nat → Value → Value → Fe} {LI : Nat → Value → Value → Ents} {m : Nat → Value → Value → Nat} {S0 : List It} {sz0 : Nat} {st : Fe} {Ds0 : List Nat} {j : Nat} [h : Rt Q Q0] : Rt (lpQ2 F n P R base Q S0 I e LI m Ds0 sz0 st j) Q0 := ⟨fun b W hq => runS_ret (S := S0) (h.out b W hq)⟩
def lpQ3 (F : Fence) (n : Nat) (P : Program) (R : List Nat) (base : World) (Q : Exit → Act → World → Prop) (S : List It) (I : Nat → Value → Value → Value → Prop) (e : Nat → Value → Value → Value → Fe) (LI : Nat → Value → Value → Value → Ents) (m : Nat → Value → Value → Value → Nat) (Ds0 : List Nat) (sz : Nat) (st : Fe) (j : Nat) : Exit → Act → World → Prop := lpQ (κ := Nat × Value × Value × Value) F n P R base Q S (fun x => I x.1 x.2.1 x.2.2.1 x.2.2.2) (fun x => e x.1 x.2.1 x.2.2.1 x.2.2.2) (fun x => LI x.1 x.2.1 x.2.2.1 x.2.2.2) (fun _ => Ds0) (fun x => m x.1 x.2.1 x.2.2.1 x.2.2.2) sz st j
instance {F : Fence} {n : Nat} {P : Program} {R : List Nat} {base : World} {Q Q0 : Exit → Act → World → Prop} {I : Nat → Value → Value → Value → Prop} {e : Nat → Value → Value → Value → Fe} {LI : Nat → Value → Value → Value → Ents} {m : Nat → Value → Value → Value → Nat} {S0 : List It} {sz0 : Nat} {st : Fe} {Ds0 : List Nat} {j : Nat} [h : Rt Q Q0] : Rt (lpQ3 F n P R base Q S0 I e LI m Ds0 sz0 st j) Q0 := ⟨fun b W hq => runS_ret (S := S0) (h.out b W hq)⟩
def lpQD (F : Fence) (n : Nat) (P : Program) (R : List Nat) (base : World) (Q : Exit → Act → World → Prop) (S : List It) (I : Nat → List Nat → Prop) (e : Nat → List Nat → Fe) (LI : Nat → List Nat → Ents) (m : Nat → List Nat → Nat) (sz : Nat) (st : Fe) (j : Nat) : Exit → Act → World → Prop := lpQ (κ := Nat × List Nat) F n P R base Q S (fun x => I x.1 x.2) (fun x => e x.1 x.2) (fun x => LI x.1 x.2) (fun x => x.2) (fun x => m x.1 x.2) sz st j
instance {F : Fence} {n : Nat} {P : Program} {R : List Nat} {base : World} {Q Q0 : Exit → Act → World → Prop} {I : Nat → List Nat → Prop} {e : Nat → List Nat → Fe} {LI : Nat → List Nat → Ents} {m : Nat → List Nat → Nat} {S0 : List It} {sz0 : Nat} {st : Fe} {j : Nat} [h : Rt Q Q0] : Rt (lpQD F n P R base Q S0 I e LI m sz0 st j) Q0 := ⟨fun b W hq => runS_ret (S := S0) (h.out b W hq)⟩
def lpQD1 (F : Fence) (n : Nat) (P : Program) (R : List Nat) (base : World) (Q : Exit → Act → World → Prop) (S : List It) (I : Nat → Value → List Nat → Prop) (e : Nat → Value → List Nat → Fe) (LI : Nat → Value → List Nat → Ents) (m : Nat → Value → List Nat → Nat) (sz : Nat) (st : Fe) (j : Nat) : Exit → Act → World → Prop := lpQ (κ := Nat × Value × List Nat) F n P R base Q S (fun x => I x.1 x.2.1 x.2.2) (fun x => e x.1 x.2.1 x.2.2) (fun x => LI x.1 x.2.1 x.2.2) (fun x => x.2.2) (fun x => m x.1 x.2.1 x.2.2) sz st j
instance {F : Fence} {n : Nat} {P : Program} {R : List Nat} {base : World} {Q Q0 : Exit → Act → World → Prop} {I : Nat → Value → List Nat → Prop} {e : Nat → Value → List Nat → Fe} {LI : Nat → Value → List Nat → Ents} {m : Nat → Value → List Nat → Nat} {S0 : List It} {sz0 : Nat} {st : Fe} {j : Nat} [h : Rt Q Q0] : Rt (lpQD1 F n P R base Q S0 I e LI m sz0 st j) Q0 := ⟨fun b W hq => runS_ret (S := S0) (h.out b W hq)⟩
def lpQD2 (F : Fence) (n : Nat) (P : Program) (R : List Nat) (base : World) (Q : Exit → Act → World → Prop) (S : List It) (I : Nat → Value → Value → List Nat → Prop) (e : Nat → Value → Value → List Nat → Fe) (LI : Nat → Value → Value → List Nat → Ents) (m : Nat → Value → Value → List Nat → Nat) (sz : Nat) (st : Fe) (j : Nat) : Exit → Act → World → Prop := lpQ (κ := Nat × Value × Value × List Nat) F n P R base Q S (fun x => I x.1 x.2.1 x.2.2.1 x.2.2.2) (fun x => e x.1 x.2.1 x.2.2.1 x.2.2.2) (fun x => LI x.1 x.2.1 x.2.2.1 x.2.2.2) (fun x => x.2.2.2) (fun x => m x.1 x.2.1 x.2.2.1 x.2.2.2) sz st j
instance {F : Fence} {n : Nat} {P : Program} {R : List Nat} {base : World} {Q Q0 : Exit → Act → World → Prop} {I : Nat → Value → Value → List Nat → Prop} {e : Nat → Value → Value → List Nat → Fe} {LI : Nat → Value → Value → List Nat → Ents} {m : Nat → Value → Value → List Nat → Nat} {S0 : List It} {sz0 : Nat} {st : Fe} {j : Nat} [h : Rt Q Q0] : Rt (lpQD2 F n P R base Q S0 I e LI m sz0 st j) Q0 := ⟨fun b W hq => runS_ret (S := S0) (h.out b W hq)⟩
end

/-! The ways of a test meet again. -/
section
variable {F : Fence} {n : Nat} {P : Program} {R : List Nat} {base : World} {Q : Exit → Act → World → Prop} {S : List It} {a : Sl} {sz : Nat} {es : Fe} {L : Ents} {Ds : List Nat}
def jQ (F : Fence) (n : Nat) (P : Program) (R : List Nat) (base : World) (Q : Exit → Act → World → Prop) (S : List It) (a' : Sl) (L' : Ents) (Ds : List Nat) : Exit → Act → World → Prop
  | .normal, b, W => Fr a' Ds b ∧ OwnE R base (L' ++ Ds.map mk) W
  | e, b, W => runS F n P Q S e b W
def thC (S : List It) : Code := match nf S with | .c (.cond _ x _) :: _ => x | _ => .skip
def elC (S : List It) : Code := match nf S with | .c (.cond _ _ y) :: _ => y | _ => .skip
/-- The slots that stay, whichever way is gone. -/
def stayJ (S : List It) (e : Fe) : Fe := (fun ds => e.filter fun x => !List.any ds (Nat.beq x.1)) (dstC (thC S) ++ dstC (elC S))
/-- A test whose ways meet again; e', L': what is told behind it, where the test is true, and where it is false. -/
theorem cJ (E : Bool) (e' : Bool → Fe) (L' : Bool → Ents) (ht : E = true → Go F n P R base (jQ F n P R base Q (tlS S) ⟨sz, e' true ++ stayJ S es⟩ (L' true) Ds) [.c (thC S)] ⟨sz, es⟩ L Ds) (hf : E = false → Go F n P R base (jQ F n P R base Q (tlS S) ⟨sz, e' false ++ stayJ S es⟩ (L' false) Ds) [.c (elC S)] ⟨sz, es⟩ L Ds)
    (hk : Go F n P R base Q (tlS S) ⟨sz, e' E ++ stayJ S es⟩ (L' E) Ds) (hc : (cdS ⟨sz, es⟩ S, ckS ⟨sz, es⟩ S) = (some E, true) := by kernel_rfl) : Go F n P R base Q S ⟨sz, es⟩ L Ds := by
  obtain ⟨c, x, y, S', h1, h2, h3, h4⟩ := cd_spec (Ds := Ds) (congrArg (·.1) hc) (congrArg (·.2) hc)
  have ex : thC S = x := by unfold thC; rw [h1]
  have ey : elC S = y := by unfold elC; rw [h1]
  have et : tlS S = S' := by unfold tlS; rw [h1]
  rw [ex] at ht
  rw [ey] at hf
  rw [et] at ht hf hk
  refine ⟨fun b W hb hO => runS_nf 1000 S ?_⟩
  rw [show nfS 1000 S = _ from h1]
  cases E with
  | true => exact wpIn_cond (h4 hb) (wpIn_mono (show x.wpIn F n P _ b W from (ht rfl).out b W hb hO) fun e b' W' he => by
      cases e with
      | normal => exact hk.out b' W' he.1 he.2
      | _ => exact he)
  | false => exact wpIn_cond (h4 hb) (wpIn_mono (show y.wpIn F n P _ b W from (hf rfl).out b W hb hO) fun e b' W' he => by
      cases e with
      | normal => exact hk.out b' W' he.1 he.2
      | _ => exact he)
/-- Where the ways meet. -/
theorem cm {S0 : List It} {a' : Sl} {L' : Ents} {Ds0 : List Nat} (he : (a'.e.map fun x => lk es x.1) = a'.e.map fun x => some x.2) (ps : List Nat) (hL : (nodupB (ps.map fun p => [p]).flatten, (ps.map fun p => [p]).map fun g => g.map fun p => L[p]?) = (true, (L'.map fun x => [x]).map fun N => N.map some)) (hS : (nf S).isEmpty = true := by kernel_rfl) (hz : sz = a'.sz := by rfl) (hD : Ds = Ds0 := by rfl) : Go F n P R base (jQ F n P R base Q S0 a' L' Ds0) S ⟨sz, es⟩ L Ds := by
  subst hD
  refine ⟨fun b W hb hO => runS_nf 1000 S ?_⟩
  rw [show nfS 1000 S = [] from List.isEmpty_iff.1 hS]
  have h := hb.told he
  exact ⟨⟨h.size.trans hz, h.get, h.defers⟩, hO.under fun h => h.pick ps _ hL⟩
/-! Regions, short. -/
theorem r0 [hF : LiftF F] (hs : List (Nat × Pre P)) (nw : Fe) (dr : List Nat) (hk : Go F n P R base Q (tlS S) ⟨sz, nw ++ dropL dr es⟩ L Ds)
    (hm : P.follows .mixedOrders = true := by kernel_rfl)
    (he : ∀ η, (isR S, (allE (opsS S) ⟨sz, es⟩ (tR S ⟨sz, es⟩ L L.length fun _ => hs) η 0 (opsS S) (hsR S ⟨sz, es⟩ L (fun _ => hs) η)).map Eqn.lhs, shapeB (drS S) (opsS S) (fun k => (depR (drS S) (opsS S)).getD k []), (List.range L.length).map (fun p => (tR S ⟨sz, es⟩ L L.length fun _ => hs).at η p (opsS S).length), nw.map (fun x => tellR (opsS S) ⟨sz, es⟩ (tR S ⟨sz, es⟩ L L.length fun _ => hs) η x.1), freshR (opsS S) es nw dr) =
      (true, (allE (opsS S) ⟨sz, es⟩ (tR S ⟨sz, es⟩ L L.length fun _ => hs) η 0 (opsS S) (hsR S ⟨sz, es⟩ L (fun _ => hs) η)).map Eqn.rhs, true, L.map some, nw.map (fun x => some x.2), true) := by intro _; kernel_rfl) : Go F n P R base Q S ⟨sz, es⟩ L Ds := rr (fun _ => hs) (fun _ => nw) dr (fun _ L => L) (fun _ => hk) hm he
end

/-! A call's beginning and its end. -/
def argE : Nat → List Value → Fe
  | _, [] => []
  | k, v :: r => (k, v) :: argE (k + 1) r
theorem argE_get : ∀ {l : List Value} {k i : Nat} {v : Value}, lk (argE k l) i = some v → k ≤ i ∧ l[i - k]? = some v
  | [], _, _, _, h => by cases h
  | u :: r, k, i, v, h => by
    unfold argE lk at h
    split at h
    · rename_i hb
      cases h
      rw [Nat.eq_of_beq_eq_true hb, Nat.sub_self]
      exact ⟨Nat.le_refl _, rfl⟩
    · obtain ⟨h1, h2⟩ := argE_get h
      refine ⟨by omega, ?_⟩
      rw [show i - k = (i - (k + 1)) + 1 by omega, List.getElem?_cons_succ]
      exact h2
def bodyC (fn : Func) : Code := fn.body.getD .skip
section
variable {P : Program} {f : FuncId} {fn : Func} {args : Array Value} {rd : Ents} {O : List Nat} {wt : Env → Ents} {v : Env → Value}
def fQ (P : Program) (fn : Func) (rd : Ents) (O : List Nat) (wt : Env → Ents) (v : Env → Value) (cs : List Objs) (w : World) : Exit → Act → World → Prop := fun e b W =>
  SatL rd cs → Has cs.flatten w → bodyPostM Fence.wide 6 P fn (PostE O wt v cs w) e b W
/-- A function's contract, from its body. -/
theorem fE (hf : P.funcs[f]? = some fn) (h : ∀ w cs, Go Fence.wide 6 P (ids cs.flatten) w (fQ P fn rd O wt v cs w) [.c (bodyC fn)] ⟨fn.ntmps, argE 0 args.toList⟩ rd []) (hE : Enters P f := by exact enters_of (by assumption) (by kernel_rfl) rfl)
    (hc : (fn.body.isSome, Nat.ble args.size fn.ntmps) = (true, true) := by kernel_rfl) : Con P f args rd O wt v := by
  refine ⟨hE, fun w cs hs hh => ?_⟩
  obtain ⟨c, hb⟩ := Option.isSome_iff_exists.1 (congrArg (·.1) hc)
  have hn : args.size ≤ fn.ntmps := Nat.le_of_ble_eq_true (congrArg (·.2) hc)
  refine (callsIn_wide (n := 6)).1 ?_
  refine callsIn_of_wp_marks hf hb trivial ?_ rfl
  have h1 := (h w cs).out { tmps := args ++ Array.replicate (fn.ntmps - args.size) undef, defers := [] } w ⟨by simp; omega, fun i v hv => ?_, rfl⟩ (by simpa using OwnE.start hs hh)
  · rw [show bodyC fn = c by unfold bodyC; rw [hb]; rfl] at h1
    exact wpIn_mono (show c.wpIn Fence.wide 6 P _ _ _ from h1) fun e b W hq => hq hs hh
  · obtain ⟨_, h2⟩ := argE_get hv
    rw [Nat.sub_zero] at h2
    have h3 : i < args.toList.length := (List.getElem?_eq_some_iff.1 h2).1
    have h4 : args[i]? = some v := by rw [← Array.getElem?_toList]; exact h2
    rw [Array.getD_eq_getD_getElem?, Array.getElem?_append_left (by simpa using h3), h4]
    rfl
instance {F : Fence} {n : Nat} {R : List Nat} {base : World} {Q Q0 : Exit → Act → World → Prop} {S0 : List It} {a' : Sl} {L' : Ents} {Ds : List Nat} [h : Rt Q Q0] : Rt (jQ F n P R base Q S0 a' L' Ds) Q0 := ⟨fun b W hq => runS_ret (S := S0) (h.out b W hq)⟩
/-- The results, as they are told. -/
def autoRV (P : Program) (L : Ents) (e : Fe) : List ResultVar → List Nat → List (RV P)
  | [], _ => []
  | .tmp i :: rs, ks => .t ((lk e i).getD undef) :: autoRV P L e rs ks
  | .cell _ T :: rs, k :: ks => (match L[k]? with
    | some (.c [(_, .cells cs _ _)]) => (match aggB P T with
      | true => .s (cs.toList.take (szT P T)) k
      | false => .c (cs.getD 0 undef) k)
    | _ => .t undef) :: autoRV P L e rs ks
  | .cell _ _ :: rs, [] => .t undef :: autoRV P L e rs []
def resG (P : Program) (L : Ents) (e : Fe) : List ResultVar → List (RV P) → List Eqn
  | [], [] => []
  | .tmp i :: rs, .t v :: vs => sE (lk e i) (some v) :: resG P L e rs vs
  | .cell p T :: rs, .c v k :: vs => (match L[k]? with
    | some (.c [(g, .cells cs _ (0, 0))]) => [sE (lk e p) (some (ptrV g 0)), sE cs[0]? (some v), sE (fun w => (isAgg T).run P w) (fun w => .ok false w)]
    | _ => [sB false]) ++ resG P L e rs vs
  | .cell p T :: rs, .s l k :: vs => (match L[k]? with
    | some (.c [(g, .cells cs _ (0, 0))]) => [sE (lk e p) (some (ptrV g 0)), sE ((cs.toList.drop 0).take l.length) l, sB (aggB P T), sE ((P.info? T).map (·.size)) (some l.length)]
    | _ => [sB false]) ++ resG P L e rs vs
  | _, _ => [sB false]
theorem resG_E {a : Sl} {Ds : List Nat} {b : Act} (hb : Fr a Ds b) {L : Ents} {M : Ents} : ∀ {rs : List ResultVar} {vs : List (RV P)}, (∀ x ∈ resG P L a.e rs vs, x.2.1 = x.2.2) → ∀ x ∈ resE P (L) b.tmps rs vs, x.2.1 = x.2.2
  | [], [], _ => fun x hx => by simp [resE] at hx
  | [], _ :: _, h => (sB_false (by simpa [resG] using h)).elim
  | .tmp i :: rs, [], h => (sB_false (by simpa [resG] using h)).elim
  | .cell p T :: rs, [], h => (sB_false (by simpa [resG] using h)).elim
  | .tmp i :: rs, .t v :: vs, h => by
    simp only [resG, List.mem_cons, forall_eq_or_imp, sE] at h
    simp only [resE, List.mem_cons, forall_eq_or_imp, sE]
    exact ⟨hb.get i v h.1, resG_E (M := M) hb h.2⟩
  | .tmp i :: rs, .c v k :: vs, h => (sB_false (by simpa only [resG] using h)).elim
  | .tmp i :: rs, .s l k :: vs, h => (sB_false (by simpa only [resG] using h)).elim
  | .cell p T :: rs, .t v :: vs, h => (sB_false (by simpa only [resG] using h)).elim
  | .cell p T :: rs, .c v k :: vs, h => by
    simp only [resG] at h
    simp only [resE]
    split at h
    · rename_i g cs ty hL
      simp only [List.mem_append, List.mem_cons, List.not_mem_nil, or_false, or_imp, forall_and, forall_eq, sE] at h
      simp only [hL, List.mem_append, List.mem_cons, List.not_mem_nil, or_false, or_imp, forall_and, forall_eq, sE]
      exact ⟨⟨hb.get p _ h.1.1, h.1.2⟩, resG_E (M := M) hb h.2⟩
    · exact (sB_false fun e he' => h e (List.mem_append_left _ he')).elim
  | .cell p T :: rs, .s l k :: vs, h => by
    simp only [resG] at h
    simp only [resE]
    split at h
    · rename_i g cs ty hL
      simp only [List.mem_append, List.mem_cons, List.not_mem_nil, or_false, or_imp, forall_and, forall_eq, sE, sB] at h
      simp only [hL, List.mem_append, List.mem_cons, List.not_mem_nil, or_false, or_imp, forall_and, forall_eq, sE, sB]
      exact ⟨⟨hb.get p _ h.1.1, h.1.2⟩, resG_E (M := M) hb h.2⟩
    · exact (sB_false fun e he' => h e (List.mem_append_left _ he')).elim
section
variable {a : Sl} {sz : Nat} {es : Fe} {L : Ents} {S : List It} {Ds : List Nat} {cs : List Objs} {w : World} {Q : Exit → Act → World → Prop}
theorem leafG {b : Act} {W : World} (hb : Fr a Ds b) (hO : OwnE (ids cs.flatten) w (L ++ Ds.map mk) W) (HS : SatL rd cs) (HH : Has cs.flatten w) (vs : List (RV P)) (E : Env) (ps : List Nat) (ks : List (Nat × Nat)) (hv : outV vs = v E)
    (he : (resG P L a.e fn.results.toList vs).map Eqn.lhs = (resG P L a.e fn.results.toList vs).map Eqn.rhs)
    (hf : (nodupB (ps ++ ks.map (·.2)), ps.map (fun p => L[p]?), ks.map (fun x => L[x.2]?), ks.all (fun x => isC rd[x.1]?), (List.range rd.length).all fun i => O.contains i || ks.any fun x => x.1 == i) = (true, (wt E).map some, ks.map (fun x => rd[x.1]?), true, true)) :
    LeavesInM Fence.wide 6 P fn b.tmps (PostE O wt v cs w) b.defers .returning W := by
  obtain ⟨R1, OC, OW⟩ := hO.seg
  rw [hb.defers]
  have h1 := resG_E (M := L) hb (Eqn.all he)
  refine leavesEM OC OW vs ?_ fun W2 hO => ?_
  · exact List.map_congr_left fun x hx => by
      obtain ⟨T, x1, x2⟩ := x
      have := h1 _ hx
      simp only at this
      unfold Eqn.lhs Eqn.rhs
      rw [this]
  · obtain ⟨ds, h1, h2⟩ := hO.fin2 (R := []) HS HH O (wt E) ps ks hf
    exact ⟨E, ds, by rw [hv], h1, h2⟩
def isRet (S : List It) : Bool := match nf S with | .c .ret :: _ => true | _ => false
/-- A return; u: the results, if they are told otherwise. -/
theorem lfV [hR : Rt Q (fQ P fn rd O wt v cs w)] (u : Value) (E : Env) (hu : u = v E) (ps : List Nat) (ks : List (Nat × Nat)) (rs : List Nat) (hv : outV (autoRV P L es fn.results.toList rs) = u := by kernel_rfl)
    (he : (resG P L es fn.results.toList (autoRV P L es fn.results.toList rs)).map Eqn.lhs = (resG P L es fn.results.toList (autoRV P L es fn.results.toList rs)).map Eqn.rhs := by kernel_rfl)
    (hf : (nodupB (ps ++ ks.map (·.2)), ps.map (fun p => L[p]?), ks.map (fun x => L[x.2]?), ks.all (fun x => isC rd[x.1]?), (List.range rd.length).all fun i => O.contains i || ks.any fun x => x.1 == i) = (true, (wt E).map some, ks.map (fun x => rd[x.1]?), true, true) := by kernel_rfl)
    (hS : isRet S = true := by kernel_rfl) : Go Fence.wide 6 P (ids cs.flatten) w Q S ⟨sz, es⟩ L Ds := by
  refine ⟨fun b W hb hO => runS_nf 1000 S ?_⟩
  unfold isRet at hS
  split at hS
  · rename_i S' e
    rw [show nfS 1000 S = _ from e]
    exact wpIn_ret (runS_ret (hR.out b W fun HS HH => leafG hb hO HS HH _ E ps ks (hv.trans hu) he hf))
  · cases hS
theorem lf [hR : Rt Q (fQ P fn rd O wt v cs w)] (E : Env) (ps : List Nat) (ks : List (Nat × Nat)) (rs : List Nat) (hv : outV (autoRV P L es fn.results.toList rs) = v E := by kernel_rfl)
    (he : (resG P L es fn.results.toList (autoRV P L es fn.results.toList rs)).map Eqn.lhs = (resG P L es fn.results.toList (autoRV P L es fn.results.toList rs)).map Eqn.rhs := by kernel_rfl)
    (hf : (nodupB (ps ++ ks.map (·.2)), ps.map (fun p => L[p]?), ks.map (fun x => L[x.2]?), ks.all (fun x => isC rd[x.1]?), (List.range rd.length).all fun i => O.contains i || ks.any fun x => x.1 == i) = (true, (wt E).map some, ks.map (fun x => rd[x.1]?), true, true) := by kernel_rfl)
    (hS : isRet S = true := by kernel_rfl) : Go Fence.wide 6 P (ids cs.flatten) w Q S ⟨sz, es⟩ L Ds := lfV (v E) E rfl ps ks rs hv he hf hS
/-- The end of a body without a return. -/
theorem lfNV (u : Value) (E : Env) (hu : u = v E) (ps : List Nat) (ks : List (Nat × Nat)) (rs : List Nat) (hv : outV (autoRV P L es fn.results.toList rs) = u := by kernel_rfl)
    (he : (resG P L es fn.results.toList (autoRV P L es fn.results.toList rs)).map Eqn.lhs = (resG P L es fn.results.toList (autoRV P L es fn.results.toList rs)).map Eqn.rhs := by kernel_rfl)
    (hf : (nodupB (ps ++ ks.map (·.2)), ps.map (fun p => L[p]?), ks.map (fun x => L[x.2]?), ks.all (fun x => isC rd[x.1]?), (List.range rd.length).all fun i => O.contains i || ks.any fun x => x.1 == i) = (true, (wt E).map some, ks.map (fun x => rd[x.1]?), true, true) := by kernel_rfl)
    (hS : (nf S).isEmpty = true := by kernel_rfl) : Go Fence.wide 6 P (ids cs.flatten) w (fQ P fn rd O wt v cs w) S ⟨sz, es⟩ L Ds := by
  refine ⟨fun b W hb hO => runS_nf 1000 S ?_⟩
  rw [show nfS 1000 S = [] from List.isEmpty_iff.1 hS]
  exact fun HS HH => leafG hb hO HS HH _ E ps ks (hv.trans hu) he hf
theorem lfN (E : Env) (ps : List Nat) (ks : List (Nat × Nat)) (rs : List Nat) (hv : outV (autoRV P L es fn.results.toList rs) = v E := by kernel_rfl)
    (he : (resG P L es fn.results.toList (autoRV P L es fn.results.toList rs)).map Eqn.lhs = (resG P L es fn.results.toList (autoRV P L es fn.results.toList rs)).map Eqn.rhs := by kernel_rfl)
    (hf : (nodupB (ps ++ ks.map (·.2)), ps.map (fun p => L[p]?), ks.map (fun x => L[x.2]?), ks.all (fun x => isC rd[x.1]?), (List.range rd.length).all fun i => O.contains i || ks.any fun x => x.1 == i) = (true, (wt E).map some, ks.map (fun x => rd[x.1]?), true, true) := by kernel_rfl)
    (hS : (nf S).isEmpty = true := by kernel_rfl) : Go Fence.wide 6 P (ids cs.flatten) w (fQ P fn rd O wt v cs w) S ⟨sz, es⟩ L Ds :=
  lfNV (v E) E rfl ps ks rs hv he hf hS
end
end
end Go.Proofs.Ytdglhppcfdpcaaa.E
namespace Go.Proofs.Ytdglhppcfdpcaaa.E
open Go Go.RowKit Go.Shelf
set_option linter.unusedVariables false
/-- A kind of elements. -/
structure Kd (P : Program) (α : Type) where
  en : α → List Value
  z : List Value
  TS : TypeId
  T : TypeId
  d : α
  k : Nat
  hk : ∀ y, (en y).length = k
  hz : k = z.length
  h1 : ∀ y, (en y).all (·.oneCell') = true
  hT : SlT P TS T z
theorem Kd.one {P : Program} {α : Type} (K : Kd P α) : ∀ y, ∀ u ∈ K.en y, u.oneCell' = true := fun y => List.all_eq_true.1 (K.h1 y)
theorem Kd.lz {P : Program} {α : Type} (K : Kd P α) : ∀ y, (K.en y).length = K.z.length := fun y => (K.hk y).trans K.hz
section
variable {P : Program} {α : Type}
abbrev sl (K : Kd P α) (v : Value) (xs : List α) : Ent := .p (SlE K.en K.z K.T v xs)
abbrev sq (K : Kd P α) (v : Value) (xs : List α) : Ent := .p (SqE K.en v xs)
theorem Kd.cell (K : Kd P α) {a : α} {f : Nat} (hf : f < K.k) : (K.en a)[f]? = some ((K.en a).getD f undef) := by
  have h : f < (K.en a).length := by rw [K.hk]; exact hf
  rw [List.getD_eq_getElem?_getD, List.getElem?_eq_getElem h]; rfl
theorem Kd.part (K : Kd P α) {a : α} {f n : Nat} (hf : f + n ≤ K.k) : (((K.en a).drop f).take n).length = n ∧ ((K.en a).drop f).take (((K.en a).drop f).take n).length = ((K.en a).drop f).take n := by
  have h : (((K.en a).drop f).take n).length = n := by rw [List.length_take, List.length_drop, K.hk]; omega
  exact ⟨h, by rw [h]⟩
section
variable (K : Kd P α) (v : Value) (xs : List α) (p : Nat)
/-- A slice of the call's own: its length, an element's place, a field's place, a cell, a part. -/
def lnS : Pre P := .m (lenS p (sl K v xs) fun _ h => h)
def ixS (i : Nat) (hi : i < xs.length := by omega) : Pre P := .m (idxS p (sl K v xs) i K.k (fun _ h => h) hi)
def gtS (i f : Nat) (hi : i < xs.length := by omega) (hf : f < K.k := by decide) : Pre P := .m (ldS (d := K.d) p (sl K v xs) i K.k f (fun _ h => h) K.hk hi hf (K.cell hf))
def agS (i f n : Nat) (hi : i < xs.length := by omega) (hf : f + n ≤ K.k := by decide) : Pre P := .m (lsS (d := K.d) p (sl K v xs) i K.k f (fun _ h => h) K.hk hi (by rw [(K.part hf).1]; exact hf) (K.part hf).2)
def wfS (i f : Nat) (a : α) (u : Value) (hu : K.en a = (K.en (xs.getD i K.d)).set f u) (hi : i < xs.length := by omega) (hf : f < K.k := by decide) : Pre P := .m (stS (T := K.T) (v := v) (xs := xs) (en := K.en) (z := K.z) (d := K.d) (a := a) (u := u) p i K.k f K.hk hi hf hu)
def apS1 (q : Nat) (ys : List α) (hb : xs.length + ys.length ≤ 1000000 := by simp only [List.length_append, List.length_cons, List.length_nil, List.length_replicate, List.length_take, List.length_drop, List.length_set]; omega) : Pre P := .m (apB (xs := xs) (ys := ys) p q K.hT v K.one K.lz hb)
end
section
variable {en : α → List Value} {v : Value} {xs : List α} {bs : Objs} (h : SrE en v xs bs) (p : Nat)
/-- A slice that is read alone. -/
def lnR : Pre P := .m (lenR p (.c bs) (cP h))
def ixR (i k : Nat) (hi : i < xs.length := by omega) : Pre P := .m (idxR p (.c bs) i k (cP h) hi)
def fdR (off f : Nat) (hi : 0 < xs.length := by omega) : Pre P := .m (fldR p (.c bs) off f (cP h) hi)
end
section
variable (K : Kd P α) {v : Value} {xs : List α} {bs : Objs} (h : SrE K.en v xs bs) (p : Nat)
def gtR (i f : Nat) (hi : i < xs.length := by omega) (hf : f < K.k := by decide) : Pre P := .m (ldR (d := K.d) p (.c bs) i K.k f (cP h) K.hk hi hf (K.cell hf))
def agR (i f n : Nat) (hi : i < xs.length := by omega) (hf : f + n ≤ K.k := by decide) : Pre P := .m (lsR (d := K.d) p (.c bs) i K.k f (cP h) K.hk hi (by rw [(K.part hf).1]; exact hf) (K.part hf).2)
end
/-- Sums, of naturals; of integers. -/
def ad (a b : Nat) (h : a + b < 9223372036854775808 := by omega) : Pre P := .t (tb (a := i6 a) (b := i6 b) fun _ _ _ _ => bin_add_nat h)
def aI (a b : Int) (h0 : -9223372036854775808 ≤ a + b := by omega) (h1 : a + b ≤ 9223372036854775807 := by omega) : Pre P := .t (tb (a := i6 a) (b := i6 b) fun _ _ _ _ => bin_add_in h0 h1)
def sI (a b : Int) (h0 : -9223372036854775808 ≤ a - b := by omega) (h1 : a - b ≤ 9223372036854775807 := by omega) : Pre P := .t (tb (a := i6 a) (b := i6 b) fun _ _ _ _ => bin_sub_in h0 h1)
def ml (a b : Nat) (h : a * b < 9223372036854775808 := by omega) : Pre P := .t (tb (a := i6 a) (b := i6 b) fun _ _ _ _ => bin_mul_nat h)
end
section
variable {F : Fence} {n : Nat} {P : Program} {R : List Nat} {base : World} {Q : Exit → Act → World → Prop} {S : List It} {sz : Nat} {es : Fe} {L : Ents} {Ds : List Nat}
/-- A nil slice's entry. -/
theorem cz {α : Type} (K : Kd P α) (hk : Go F n P R base Q S ⟨sz, es⟩ (L ++ [sl K (.slice none 0 0) []]) Ds) : Go F n P R base Q S ⟨sz, es⟩ L Ds := cn K.en K.z K.T hk
end
end Go.Proofs.Ytdglhppcfdpcaaa.E
