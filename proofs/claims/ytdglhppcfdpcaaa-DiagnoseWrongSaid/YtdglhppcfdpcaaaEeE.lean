/- Several texts in one: Gn Eo Ep Gs Et. -/
import Derived.Test.YtdglhppcfdpcaaaEeD
import Derived.Test.YtdglhppcfdpcaaaEeC
namespace Go.Proofs.Ytdglhppcfdpcaaa.E
open Go Go.RowKit Go.Shelf
set_option linter.unusedVariables false
/-- A call's environment. -/
def Env.l (bs ns : List Nat) (vs : List Value) : Env := ⟨fun i => bs.getD i 0, fun i => ns.getD i 0, fun i => vs.getD i undef⟩
section
variable {P : Program} {f : FuncId} {args : Array Value} {rd : Ents} {O : List Nat} {wt : Env → Ents} {v : Env → Value}
/-- What a call owes. -/
def PostE (O : List Nat) (wt : Env → Ents) (v : Env → Value) (cs : List Objs) (w : World) (e : Ending) (w' : World) : Prop :=
  ∃ E ds, e = .returned (v E) ∧ SatL (wt E) ds ∧ Step (O.flatMap fun i => ids (cs.getD i [])) ds.flatten w w'
def isC : Option Ent → Bool
  | some (.c _) => true
  | _ => false
theorem OwnE.fin2 {R : List Nat} {w W' : World} {L : Ents} {cs : List Objs} (hs : SatL rd cs) (hh : Has cs.flatten w) (h : OwnE (ids cs.flatten) w L W') (O : List Nat) (N : Ents) (ps : List Nat) (ks : List (Nat × Nat))
    (he : (nodupB (ps ++ ks.map (·.2)), ps.map (fun p => L[p]?), ks.map (fun x => L[x.2]?), ks.all (fun x => isC rd[x.1]?), (List.range rd.length).all fun i => O.contains i || ks.any fun x => x.1 == i) = (true, N.map some, ks.map (fun x => rd[x.1]?), true, true)) :
    ∃ ds, SatL N ds ∧ Step (O.flatMap fun i => ids (cs.getD i [])) ds.flatten w W' := by
  simp only [Prod.mk.injEq] at he
  obtain ⟨h1, h2, h3, h4, h5⟩ := he
  refine h.fin hs hh O N ps ks ?_
  simp only [Prod.mk.injEq]
  refine ⟨h1, h2, ?_, h5⟩
  rw [h3]
  refine List.map_congr_left fun x hx => ?_
  have h6 := List.all_eq_true.1 h4 x hx
  cases hq : rd[x.1]? with
  | none => rw [hq] at h6; cases h6
  | some y =>
    rw [hq] at h6
    cases y with
    | c bs => rw [show cs.getD x.1 [] = bs from satL_get hs hq]
    | p Q => cases h6
/-- What is read alone may be told as it stands. -/
theorem Con.ro (i : Nat) {Q : Objs → Prop} (hi : rd[i]? = some (.p Q)) (h : ∀ bs, Q bs → Con P f args (rd.set i (.c bs)) O wt v) (hE : Enters P f) : Con P f args rd O wt v := by
  refine ⟨hE, fun w cs hs hh => ?_⟩
  refine (h (cs.getD i []) (satL_get hs hi)).out w cs ?_ hh
  have key : ∀ (rd : Ents) (cs : List Objs) (i : Nat), SatL rd cs → i < rd.length → SatL (rd.set i (.c (cs.getD i []))) cs := by
    intro rd
    induction rd with
    | nil => intro cs i _ hi; simp at hi
    | cons x rd ih =>
      intro cs i hs hi
      obtain ⟨d, ds, rfl, h1, h2⟩ := satL_cons hs
      cases i with
      | zero => exact ⟨rfl, h2⟩
      | succ i => exact ⟨h1, ih ds i h2 (by simpa using hi)⟩
  exact key rd cs i hs (List.getElem?_eq_some_iff.1 hi).1
/-- A contract for what is told as it stands, from one that asks for less. -/
theorem Con.at (h : Con P f args rd O wt v) {rd' : Ents} (hr : ∀ cs, SatL rd' cs → SatL rd cs) : Con P f args rd' O wt v := ⟨h.ent, fun w cs hs hh => h.out w cs (hr cs hs) hh⟩
end
section
variable {P : Program} {f : FuncId} {args : Array Value} {u : Value}
/-- The contract, as the laws' last step asks for it. -/
theorem Con.below (h : Con P f args [] [] (fun _ => []) (fun _ => u)) (w : World) : Calls P f args w fun e w' => e = .returned u ∧ Below w.heap.size w w' := by
  refine (callsIn_wide (n := 6)).1 ((callsIn_wide.2 (h.out w [] trivial ⟨fun _ h => by simp at h, List.Pairwise.nil⟩)).mono ?_)
  rintro e w' ⟨E, ds, rfl, h1, h2⟩
  exact ⟨rfl, h2.os, h2.tape, h2.output, h2.size, fun b hb => h2.far b hb (by simp)⟩
end
/-! What operations give, told. -/
section
variable {P : Program}
def tbD (op : BinOp) (a b : Value) : TD := fun o ρ => match o.op with | .binOp op' _ x y _ => [sE op' op, sE (ρ x) a, sE (ρ y) b] | _ => [sB false]
theorem tb_ok {op : BinOp} {a b c : Value} (h : ∀ (T : TypeId) (x y : Operand) (w : World), (sBin op T x y a b).run P w = .ok c w) : TD.ok P (tbD op a b) c := by
  intro o ρ he w
  unfold tbD at he
  split at he
  · rename_i op' T x y q hop
    simp only [List.mem_cons, List.not_mem_nil, or_false, forall_eq_or_imp, forall_eq, sE] at he
    obtain ⟨rfl, h2, h3⟩ := he
    have h4 := h T x y w
    unfold sBin at h4
    unfold execOp
    simp only [hop, h2, h3]
    have h5 := run_vS h4
    unfold vS at h5
    exact h5
  · exact (sB_false he).elim
def tb {op : BinOp} {a b c : Value} (h : ∀ (T : TypeId) (x y : Operand) (w : World), (sBin op T x y a b).run P w = .ok c w) : TH P c := ⟨_, tb_ok h⟩
def tbTD (op : BinOp) (T : TypeId) (a b : Value) : TD := fun o ρ => match o.op with | .binOp op' T' x y _ => [sE op' op, sE T' T, sE (ρ x) a, sE (ρ y) b] | _ => [sB false]
theorem tbT_ok {op : BinOp} {a b c : Value} (T : TypeId) (h : ∀ (x y : Operand) (w : World), (sBin op T x y a b).run P w = .ok c w) : TD.ok P (tbTD op T a b) c := by
  intro o ρ he w
  unfold tbTD at he
  split at he
  · rename_i op' T x y q hop
    simp only [List.mem_cons, List.not_mem_nil, or_false, forall_eq_or_imp, forall_eq, sE] at he
    obtain ⟨rfl, rfl, h2, h3⟩ := he
    have h4 := h x y w
    unfold sBin at h4
    unfold execOp
    simp only [hop, h2, h3]
    have h5 := run_vS h4
    unfold vS at h5
    exact h5
  · exact (sB_false he).elim
/-- .. of a type told. -/
def tbT {op : BinOp} {a b c : Value} (T : TypeId) (h : ∀ (x y : Operand) (w : World), (sBin op T x y a b).run P w = .ok c w) : TH P c := ⟨_, tbT_ok T h⟩
def tcD (P : Program) (k l : IntKind) (a : Value) : TD := fun o ρ => match o.op with | .convert S T x => [sE (P.underlying S) (some (.int k)), sE (P.underlying T) (some (.int l)), sE (ρ x) a] | _ => [sB false]
theorem tc_ok {k l : IntKind} {a c : Value} (h : ∀ (S T : TypeId) (w : World), P.underlying S = some (.int k) → P.underlying T = some (.int l) → (convert S T a).run P w = .ok c w) : TD.ok P (tcD P k l a) c := by
  intro o ρ he w
  unfold tcD at he
  split at he
  · rename_i S T x hop
    simp only [List.mem_cons, List.not_mem_nil, or_false, forall_eq_or_imp, forall_eq, sE] at he
    obtain ⟨h1, h2, h3⟩ := he
    unfold execOp
    simp only [hop, h3]
    have h5 := run_vS (h S T w h1 h2)
    unfold vS at h5
    exact h5
  · exact (sB_false he).elim
/-- A conversion. -/
def tc {k l : IntKind} {a c : Value} (h : ∀ (S T : TypeId) (w : World), P.underlying S = some (.int k) → P.underlying T = some (.int l) → (convert S T a).run P w = .ok c w) : TH P c := ⟨_, tc_ok h⟩
end
end Go.Proofs.Ytdglhppcfdpcaaa.E
namespace Go.Proofs.Ytdglhppcfdpcaaa.E
open Go Go.RowKit Go.Shelf
set_option linter.unusedVariables false
abbrev slB (v : Value) (xs : List UInt8) : Ent := .p (SlE eB [.int .u8 0] 5 v xs)
abbrev slI (v : Value) (xs : List Int) : Ent := .p (SlE eI [.int .i64 0] 3 v xs)
section
variable {α : Type} {P : Program} {en : α → List Value} {z : List Value} {e T : TypeId} {v : Value} {xs ys : List α} {bs : Objs} {w : World}
/-- What stands still. -/
theorem cP {Q : Objs → Prop} {bs : Objs} (h : Q bs) : ∀ b, (Ent.c bs).sat b → Q b := fun b hb => by rw [show b = bs from hb]; exact h
def apBD (P : Program) (p q : Nat) (T' : TypeId) (v : Value) (x : Ent) (y : Env → Ent) (news : List Value) (m : Nat) (o : Oper) (ρ : Operand → Value) (C : Mem) : MD := match C q, o.op with
  | some (.c [(g, .cells cs2 t' (0, 0))]), .call ⟨.builtin .append, a, _⟩ => match a.toList.map ρ with
    | [_, .slice (some ⟨_, off, none⟩) _ c] => ⟨[(p, x), (q, ob g cs2 t')], fun E => [(p, y E)], [sE (fun w => (execOp ρ o).run P w) (fun w => (sApp T' o.type v (.slice (some ⟨g, off, none⟩) m c)).run P w), sE ((cs2.toList.drop off).take news.length) news]⟩
    | _ => MD.bad
  | _, _ => MD.bad
theorem apB_ok {T' : TypeId} (p q : Nat) (hT : SlT P T' e z) (v : Value) (hlen : ∀ y, (en y).length = z.length) (h1 : ∀ y, ∀ u ∈ en y, u.oneCell' = true) (hb : xs.length + ys.length ≤ 1000000) :
    MD.ok P (fun E => E.val 0) (apBD P p q T' v (.p (SlE en z e v xs)) (fun E => .p (SlE en z e (E.val 0) (xs ++ ys))) (slF en ys) ys.length) [p] := by
  intro o ρ C he w c hH
  unfold apBD at he hH ⊢
  split at he
  · rename_i g cs2 t' a t hC hop
    simp only [hC, hop] at hH ⊢
    split at he
    · rename_i x0 g' off m' c' ha
      simp only [ha] at hH ⊢
      simp only [List.mem_cons, List.not_mem_nil, or_false, forall_eq_or_imp, forall_eq, sE] at he
      obtain ⟨h2, h3⟩ := he
      obtain ⟨E, d, w', hr, hs, hst⟩ := appB (T' := T') (TY := o.type) (p := p) (q := q) (v := v) (xs := xs) (c := c') hT hlen h1 rfl h3 hb w c hH
      exact ⟨E, d, w', hr.imp (fun h => (congrFun h2 w).trans h) (fun h => ⟨(congrFun h2 w).trans h.1, h.2⟩), hs, hst⟩
    · exact (sB_false he).elim
  · exact (sB_false he).elim
def apB {T' : TypeId} (p q : Nat) (hT : SlT P T' e z) (v : Value) (h1 : ∀ y, ∀ u ∈ en y, u.oneCell' = true) (hlen : ∀ y, (en y).length = z.length) (hb : xs.length + ys.length ≤ 1000000) : MH P (fun E => E.val 0) :=
  ⟨[p], apBD P p q T' v (.p (SlE en z e v xs)) (fun E => .p (SlE en z e (E.val 0) (xs ++ ys))) (slF en ys) ys.length, apB_ok p q hT v hlen h1 hb⟩
def apSD (P : Program) (p q : Nat) (T' : TypeId) (v u : Value) (x xq : Ent) (y : Env → Ent) (o : Oper) (ρ : Operand → Value) (C : Mem) : MD :=
  ⟨[(p, x), (q, xq)], fun E => [(p, y E)], [sE (fun w => (execOp ρ o).run P w) (fun w => (sApp T' o.type v u).run P w)]⟩
theorem apS_ok {T' : TypeId} (p q : Nat) (hT : SlT P T' e z) (v u : Value) (xq : Ent) (hx : ∀ bs, xq.sat bs → SrE en u ys bs) (hlen : ∀ y, (en y).length = z.length) (h1 : ∀ y, ∀ u ∈ en y, u.oneCell' = true) (hb : xs.length + ys.length ≤ 1000000) :
    MD.ok P (fun E => E.val 0) (apSD P p q T' v u (.p (SlE en z e v xs)) xq (fun E => .p (SlE en z e (E.val 0) (xs ++ ys)))) [p] := by
  intro o ρ C he w c hH
  simp only [apSD, List.mem_singleton, forall_eq, sE] at he hH ⊢
  obtain ⟨E, d, w', hr, hs, hst⟩ := appS (T' := T') (TY := o.type) (p := p) (q := q) (v := v) (xs := xs) hT hlen h1 hx hb w c hH
  exact ⟨E, d, w', hr.imp (fun h => (congrFun he w).trans h) (fun h => ⟨(congrFun he w).trans h.1, h.2⟩), hs _ (List.mem_singleton.2 rfl), hst⟩
def apS {T' : TypeId} (p q : Nat) (hT : SlT P T' e z) (v u : Value) (xq : Ent) (hx : ∀ bs, xq.sat bs → SrE en u ys bs) (h1 : ∀ y, ∀ u ∈ en y, u.oneCell' = true) (hlen : ∀ y, (en y).length = z.length) (hb : xs.length + ys.length ≤ 1000000) : MH P (fun E => E.val 0) :=
  ⟨[p], apSD P p q T' v u (.p (SlE en z e v xs)) xq (fun E => .p (SlE en z e (E.val 0) (xs ++ ys))), apS_ok p q hT v u xq hx hlen h1 hb⟩
end
section
variable {P : Program}
/-- A composite literal's block. -/
def bsC (P : Program) (te : TypeId) (n : Nat) (ps : List (Nat × Operand)) (ρ : Operand → Value) : Array Value :=
  ((List.range n).flatMap fun i => match ps.find? (fun x => x.1 == i) with | some x => (ρ x.2).cells.toList | none => (zcs P te).toList).toArray
def bsD (P : Program) (p n : Nat) (o : Oper) (ρ : Operand → Value) (_ : Mem) : MD := match o.op with
  | .buildSlice T n' ps => ⟨[], fun E => [(p, ob (E.blk 0) (bsC P (P.elem T) n ps.toList ρ) (P.elem T))], [sE n' n, sE (fun w => (execOp ρ o).run P w) (fun w => .ok (.value (.slice (some ⟨w.heap.size, 0, none⟩) n n)) (w.alloc (.cells (bsC P (P.elem T) n ps.toList ρ) (P.elem T))))]⟩
  | _ => MD.bad
theorem bs_ok (p n : Nat) : MD.ok P (fun E => .slice (some ⟨E.blk 0, 0, none⟩) n n) (bsD P p n) [] := by
  intro o ρ C he w c hH
  unfold bsD at he hH ⊢
  split at he
  · rename_i T n' ps hop
    simp only [hop] at hH ⊢
    simp only [List.mem_cons, List.not_mem_nil, or_false, forall_eq_or_imp, forall_eq, sE] at he
    refine ⟨Env.of w.heap.size, fun _ => [(w.heap.size, .cells (bsC P (P.elem T) n ps.toList ρ) (P.elem T) (0, 0))], _, .inl (congrFun he.2 w), fun x h => ?_, by simpa using Step.alloc w (.cells (bsC P (P.elem T) n ps.toList ρ) (P.elem T))⟩
    rw [List.mem_singleton.1 h]
    rfl
  · exact (sB_false he).elim
def bs (p n : Nat) : MH P (fun E => .slice (some ⟨E.blk 0, 0, none⟩) n n) := ⟨[], bsD P p n, bs_ok p n⟩
/-- A composite literal of nothing. -/
def bs0D (P : Program) {α : Type} (p : Nat) (en : α → List Value) (z : List Value) (te : TypeId) (o : Oper) (ρ : Operand → Value) (_ : Mem) : MD :=
  ⟨[], fun E => [(p, .p (SlE en z te (.slice (some ⟨E.blk 0, 0, none⟩) 0 0) []))], [sE (fun w => (execOp ρ o).run P w) (fun w => .ok (.value (.slice (some ⟨w.heap.size, 0, none⟩) 0 0)) (w.alloc (.cells #[] te)))]⟩
theorem bs0_ok {α : Type} (p : Nat) (en : α → List Value) (z : List Value) (te : TypeId) : MD.ok P (fun E => .slice (some ⟨E.blk 0, 0, none⟩) 0 0) (bs0D P p en z te) [] := by
  intro o ρ C he w c hH
  simp only [bs0D, List.mem_singleton, forall_eq, sE] at he hH ⊢
  refine ⟨Env.of w.heap.size, fun _ => [], _, .inl (congrFun he w), SlE.nil _, ?_⟩
  have := Step.alloc w (.cells #[] te)
  exact ⟨this.os, this.tape, this.output, this.size, fun _ h => by simp at h, fun _ h => by simp at h, by simp, fun b hb hn => this.far b hb (by simp)⟩
def bs0 {α : Type} (p : Nat) (en : α → List Value) (z : List Value) (te : TypeId) : MH P (fun E => .slice (some ⟨E.blk 0, 0, none⟩) 0 0) := ⟨[], bs0D P p en z te, bs0_ok p en z te⟩
end
section
variable {α : Type} {P : Program} {en : α → List Value} {z : List Value} {e T : TypeId} {v : Value} {xs : List α}
/-- A slice from l on. -/
def slLD (P : Program) (p : Nat) (x : Ent) (v : Value) (l s : Nat) (o : Oper) (ρ : Operand → Value) (_ : Mem) : MD := match o.op with
  | .slice T a (some b) none none => ⟨[(p, x)], fun _ => [], [sE (ρ a) v, sE (ρ b) (.int .i64 (l : Int)), sE (P.underlying T, sizB P (P.elem T)) (some (.slice (P.elem T)), some s)]⟩
  | _ => MD.bad
end
section
variable {P : Program}
theorem HasC.two {a b : Nat × Ent} {c : Cnc} {w : World} (h : HasC [a, b] c w) : HasC [a] c w ∧ b.2.sat (c b.1) := by
  have hh := h.has
  simp only [List.flatMap_cons, List.flatMap_nil, List.append_nil] at hh
  exact ⟨⟨fun x hx => h.sat x (by rw [List.mem_singleton.1 hx]; simp), by simpa using (⟨fun x hx => hh.obj x (List.mem_append_left _ hx), (List.pairwise_append.1 hh.nd).1⟩ : Has (c a.1) w)⟩, h.sat b (by simp)⟩
/-- One cell is written with what an entry tells of: a slice. -/
def stVD (P : Program) (p q : Nat) (x : Ent) (v : Value) (o : Oper) (ρ : Operand → Value) (C : Mem) : MD := match o.op, C p with
  | .store T a b, some (.c [(g, .cells cs ty (0, 0))]) => match adr (ρ a) with
    | some (g', off) => ⟨[(p, ob g cs ty), (q, x)], fun _ => [(p, ob g (cs.setIfInBounds off v) ty)], [sE g' g, sB (Nat.blt off cs.size), sE (ρ b) v, sE ((P.info? T).map (·.size)) (some 1)]⟩
    | none => MD.bad
  | _, _ => MD.bad
theorem stV_ok (p q : Nat) (x : Ent) (v : Value) (hv : ∀ bs, x.sat bs → v.oneCell' = true) : MD.ok P (fun _ => undef) (stVD P p q x v) [p] := by
  intro o ρ C he w c hH
  unfold stVD at he hH ⊢
  split at he
  · rename_i T a b g cs ty hop hC
    simp only [hop, hC] at hH ⊢
    split at he
    · rename_i g' off ha
      simp only [ha] at hH ⊢
      simp only [List.mem_cons, List.not_mem_nil, or_false, forall_eq_or_imp, forall_eq, sE, sB] at he
      obtain ⟨rfl, h2, h3, h4⟩ := he
      obtain ⟨hH1, hs⟩ := hH.two
      obtain ⟨hc, hb⟩ := hH1.one
      refine ⟨Env.zero, fun _ => [(g', .cells (cs.setIfInBounds off v) ty (0, 0))], _, .inr ⟨?_, by simp⟩, fun z h => ?_, by simpa [hc, ids] using Step.setc v hb⟩
      · unfold execOp
        simp only [hop, adr_some ha, h3, Instr.storeAt, Instr.sureAddr, Sem.run_bind, Sem.run_pure, Result.andThen_ok, run_store1 hb (Nat.blt_eq ▸ h2) (hv _ hs) h4]
      · rw [List.mem_singleton.1 h]
        rfl
    · exact (sB_false he).elim
  · exact (sB_false he).elim
def stV (p q : Nat) (x : Ent) (v : Value) (hv : ∀ bs, x.sat bs → v.oneCell' = true) : MH P (fun _ => undef) := ⟨[p], stVD P p q x v, stV_ok p q x v hv⟩
theorem SlE.one {α : Type} {en : α → List Value} {z : List Value} {T : TypeId} {v : Value} {xs : List α} {bs : Objs} (h : SlE en z T v xs bs) : v.oneCell' = true := by
  obtain ⟨a, r, rfl⟩ := h.slice
  rfl
end
/-- A told value, by another name. -/
def TH.cast {P : Program} {a b : Value} (t : TH P a) (h : a = b) : TH P b := ⟨t.d, h ▸ t.h⟩
def tkD (P : Program) (v0 : Value) : TD := fun o ρ => [sE (fun w => (execOp ρ o).run P w) (fun w => .ok (.value v0) w)]
def tk {P : Program} {v0 v : Value} (h : v0 = v) : TH P v := ⟨tkD P v0, fun o ρ he w => by rw [← h]; exact congrFun (he _ (List.mem_singleton.2 rfl)) w⟩
theorem h1B : ∀ (y : UInt8), ∀ u ∈ eB y, u.oneCell' = true := fun y u hu => by rw [List.mem_singleton.1 hu]; rfl
theorem slTB : SlT Try.prog 89 5 [.int .u8 0] := SlT.mk' (by kernel_rfl) (by kernel_rfl) rfl
end Go.Proofs.Ytdglhppcfdpcaaa.E
namespace Go.Proofs.Ytdglhppcfdpcaaa.E
open Go Go.RowKit Go.Shelf
set_option linter.unusedVariables false
section
variable {α : Type} {P : Program} {en : α → List Value} {v : Value} {xs : List α} {bs : Objs} {w : World}
theorem SrE.form (h : SrE en v xs bs) : ∃ a c, v = .slice a xs.length c := by
  rcases h with ⟨rfl, a, c, rfl⟩ | ⟨g, off, cs, t, fr, c, rfl, _⟩
  · exact ⟨a, c, rfl⟩
  · exact ⟨_, _, rfl⟩
theorem SrE.some (h : SrE en v xs bs) {i : Nat} (hi : i < xs.length) : ∃ (g off : Nat) (cs : Array Value) (t : TypeId) (fr : Nat × Nat) (c : Nat), v = .slice (.some ⟨g, off, none⟩) xs.length c ∧ (g, Obj.cells cs t fr) ∈ bs ∧ (cs.toList.drop off).take (slF en xs).length = slF en xs := by
  rcases h with ⟨rfl, _⟩ | h
  · simp at hi
  · exact h
theorem SrE.one (h : SrE en v xs bs) : v.oneCell' = true := by
  obtain ⟨a, c, rfl⟩ := h.form
  rfl
theorem rpart {l : List Value} {off k i : Nat} {d : α} (hl : (l.drop off).take (slF en xs).length = slF en xs) (h : ∀ x, (en x).length = k) (hi : i < xs.length) : (l.drop (off + i * k)).take k = en (xs.getD i d) := by
  have h0 := slF_lenk h (xs := xs) rfl
  have h1 : (i + 1) * k ≤ xs.length * k := Nat.mul_le_mul_right _ hi
  rw [Nat.succ_mul] at h1
  rw [← sl_part (d := d) h hi]
  conv => rhs; rw [← hl]
  rw [List.drop_take, List.take_take, List.drop_drop, Nat.min_eq_left (by omega)]
theorem rcell {cs : Array Value} {off k i f : Nat} {d : α} {u : Value} (hl : (cs.toList.drop off).take (slF en xs).length = slF en xs) (h : ∀ x, (en x).length = k) (hi : i < xs.length) (hf : f < k) (hu : (en (xs.getD i d))[f]? = .some u) : cs[off + (i * k + f)]? = .some u := by
  have h2 := congrArg (fun l => l[f]?) (rpart (d := d) hl h hi)
  simp only [List.getElem?_take_of_lt hf, List.getElem?_drop] at h2
  rw [← Array.getElem?_toList, ← Nat.add_assoc, h2, hu]
theorem run_lsR {P : Program} {w : World} {g off : Nat} {ty T : TypeId} {cs : Array Value} {fr : Nat × Nat} {l : List Value} (hg : w.heap[g]? = .some (.cells cs ty fr)) (hl : (cs.toList.drop off).take l.length = l) (h : aggB P T = true) (hi : (P.info? T).map (·.size) = .some l.length) : (loadVar T ⟨g, off, none⟩).run P w = .ok (.agg l.toArray) w := by
  have h1 : (loadCells ⟨g, off, none⟩ l.length).run P w = .ok l.toArray w := run_loadCells_list (P := P) w ⟨g, off, none⟩ l (row_cells hg hl)
  cases hq : P.info? T with
  | none => simp [hq] at hi
  | some i =>
    have hs : i.size = l.length := by simpa [hq] using hi
    have hagg : (isAgg T).run P w = .ok true w := by
      unfold isAgg
      unfold aggB at h
      split at h
      · rename_i e; rw [Sem.run_bind, run_underlying e w]; simp
      · rename_i e; rw [Sem.run_bind, run_underlying e w]; simp
      · cases h
    simp [loadVar, Sem.run_bind, hagg, sizeOf, typeInfo, hq, hs, h1]
theorem lenR_ok (p : Nat) (x : Ent) (h : ∀ bs, x.sat bs → SrE en v xs bs) : MD.ok P (fun _ => .int .i64 (xs.length : Int)) (lenSD P p x v) [] := by
  intro o ρ C he w c hH
  unfold lenSD at he hH ⊢
  split at he
  · rename_i a t hop
    simp only [hop] at hH ⊢
    simp only [List.mem_cons, List.not_mem_nil, or_false, forall_eq_or_imp, forall_eq, sE, sB] at he
    obtain ⟨h0, ht⟩ := he
    obtain ⟨h1, h2⟩ := hH.ent
    obtain ⟨b, k, rfl⟩ := (h _ h1).form
    obtain ⟨T', e', rfl, hT⟩ := slOkB_spec ht
    refine ⟨Env.zero, fun _ => [], w, .inl ((congrFun h0 w).trans (run_vS ?_)), fun x h => by simp at h, by simpa using Step.refl w⟩
    simp [Builtin.len_, run_underlying hT, goInt, Sem.run_bind]
  · exact (sB_false he).elim
def lenR (p : Nat) (x : Ent) (h : ∀ bs, x.sat bs → SrE en v xs bs) : MH P (fun _ => .int .i64 (xs.length : Int)) := ⟨[], lenSD P p x v, lenR_ok p x h⟩
theorem idxR_ok (p : Nat) (x : Ent) (i s : Nat) (h : ∀ bs, x.sat bs → SrE en v xs bs) (hi : i < xs.length) : MD.ok P (fun _ => ixV v (i * s)) (idxSD P p x v i s) [] := by
  intro o ρ C he w c hH
  unfold idxSD at he hH ⊢
  split at he
  · rename_i T' a b hop
    simp only [hop] at hH ⊢
    simp only [List.mem_cons, List.not_mem_nil, or_false, forall_eq_or_imp, forall_eq, sE] at he
    obtain ⟨ha, hb, hT⟩ := he
    obtain ⟨h1, h2⟩ := hH.ent
    obtain ⟨g, off, cs, t, fr, c', rfl, _⟩ := (h _ h1).some hi
    refine ⟨Env.zero, fun _ => [], w, .inl ?_, fun x h => by simp at h, by simpa using Step.refl w⟩
    unfold execOp
    have hr := idx_sl (P := P) (w := w) (g := g) (off := off) (n := xs.length) (c := c') (k := i) (s := s) hT hi
    simp only [hop, ha, hb, Sem.run_bind, hr, Result.andThen_ok, Sem.run_pure, ixV, add_lit]
  · exact (sB_false he).elim
def idxR (p : Nat) (x : Ent) (i s : Nat) (h : ∀ bs, x.sat bs → SrE en v xs bs) (hi : i < xs.length) : MH P (fun _ => ixV v (i * s)) := ⟨[], idxSD P p x v i s, idxR_ok p x i s h hi⟩
theorem fldR_ok (p : Nat) (x : Ent) (off d : Nat) (h : ∀ bs, x.sat bs → SrE en v xs bs) (hi : 0 < xs.length) : MD.ok P (fun _ => ixV v (off + d)) (fldSD P p x v off d) [] := by
  intro o ρ C he w c hH
  unfold fldSD at he hH ⊢
  split at he
  · rename_i T' a f hop
    simp only [hop] at hH ⊢
    simp only [List.mem_cons, List.not_mem_nil, or_false, forall_eq_or_imp, forall_eq, sE] at he
    obtain ⟨ha, hT⟩ := he
    obtain ⟨h1, h2⟩ := hH.ent
    obtain ⟨g, of, cs, t, fr, c', rfl, _⟩ := (h _ h1).some hi
    refine ⟨Env.zero, fun _ => [], w, .inl ?_, fun x h => by simp at h, by simpa using Step.refl w⟩
    unfold execOp
    have hr := congrFun hT (g, of + off, w)
    simp only at hr
    simp only [ixV, add_lit] at ha
    simp only [hop, ha, Sem.run_bind, hr, Result.andThen_ok, Sem.run_pure, ixV, add_lit, Nat.add_assoc]
  · exact (sB_false he).elim
def fldR (p : Nat) (x : Ent) (off d : Nat) (h : ∀ bs, x.sat bs → SrE en v xs bs) (hi : 0 < xs.length) : MH P (fun _ => ixV v (off + d)) := ⟨[], fldSD P p x v off d, fldR_ok p x off d h hi⟩
theorem ldR_ok (p : Nat) (x : Ent) (i k f : Nat) {d : α} {u : Value} (h : ∀ bs, x.sat bs → SrE en v xs bs) (hk : ∀ y, (en y).length = k) (hi : i < xs.length) (hf : f < k) (hu : (en (xs.getD i d))[f]? = .some u) : MD.ok P (fun _ => u) (ldSD P p x v (i * k + f)) [] := by
  intro o ρ C he w c hH
  unfold ldSD at he hH ⊢
  split at he
  · rename_i T' a hop
    simp only [hop] at hH ⊢
    simp only [List.mem_cons, List.not_mem_nil, or_false, forall_eq_or_imp, forall_eq, sE] at he
    obtain ⟨ha, hT⟩ := he
    obtain ⟨h1, h2⟩ := hH.ent
    obtain ⟨g, of, cs, t, fr, c', rfl, hb, hN⟩ := (h _ h1).some hi
    have hcc : w.cell? ⟨g, of + (i * k + f), none⟩ = .some u := (cell_of_row w g _ cs t fr (h2.obj _ hb)).trans (rcell hN hk hi hf hu)
    refine ⟨Env.zero, fun _ => [], w, .inl ?_, fun x h => by simp at h, by simpa using Step.refl w⟩
    unfold execOp
    simp only [ixV, add_lit] at ha
    simp only [hop, ha, Instr.loadAt, Instr.sureAddr, Sem.run_bind, Sem.run_pure, Result.andThen_ok, run_loadVar_cell (congrFun hT w) hcc]
  · exact (sB_false he).elim
def ldR (p : Nat) (x : Ent) (i k f : Nat) {d : α} {u : Value} (h : ∀ bs, x.sat bs → SrE en v xs bs) (hk : ∀ y, (en y).length = k) (hi : i < xs.length) (hf : f < k) (hu : (en (xs.getD i d))[f]? = .some u) : MH P (fun _ => u) := ⟨[], ldSD P p x v (i * k + f), ldR_ok p x i k f h hk hi hf hu⟩
theorem lsR_ok (p : Nat) (x : Ent) (i k f : Nat) {d : α} {l : List Value} (h : ∀ bs, x.sat bs → SrE en v xs bs) (hk : ∀ y, (en y).length = k) (hi : i < xs.length) (hf : f + l.length ≤ k) (hu : ((en (xs.getD i d)).drop f).take l.length = l) : MD.ok P (fun _ => .agg l.toArray) (lsSD P p x v (i * k + f) l.length) [] := by
  intro o ρ C he w c hH
  unfold lsSD at he hH ⊢
  split at he
  · rename_i T' a hop
    simp only [hop] at hH ⊢
    simp only [List.mem_cons, List.not_mem_nil, or_false, forall_eq_or_imp, forall_eq, sE, sB] at he
    obtain ⟨ha, hg, hs⟩ := he
    obtain ⟨h1, h2⟩ := hH.ent
    obtain ⟨g, of, cs, t, fr, c', rfl, hb, hN⟩ := (h _ h1).some hi
    refine ⟨Env.zero, fun _ => [], w, .inl ?_, fun x h => by simp at h, by simpa using Step.refl w⟩
    unfold execOp
    simp only [ixV, add_lit] at ha
    have hz := rpart (d := d) hN hk hi
    have hp : (cs.toList.drop (of + (i * k + f))).take l.length = l := by
      have h5 : (cs.toList.drop (of + (i * k + f))).take l.length = (((cs.toList.drop (of + i * k)).take k).drop f).take l.length := by
        rw [List.drop_take, List.take_take, List.drop_drop, ← Nat.add_assoc, Nat.min_eq_left (by omega)]
      rw [h5, hz, hu]
    simp only [hop, ha, Instr.loadAt, Instr.sureAddr, Sem.run_bind, Sem.run_pure, Result.andThen_ok, run_lsR (h2.obj _ hb) hp hg hs]
  · exact (sB_false he).elim
def lsR (p : Nat) (x : Ent) (i k f : Nat) {d : α} {l : List Value} (h : ∀ bs, x.sat bs → SrE en v xs bs) (hk : ∀ y, (en y).length = k) (hi : i < xs.length) (hf : f + l.length ≤ k) (hu : ((en (xs.getD i d)).drop f).take l.length = l) : MH P (fun _ => .agg l.toArray) := ⟨[], lsSD P p x v (i * k + f) l.length, lsR_ok p x i k f h hk hi hf hu⟩
end
end Go.Proofs.Ytdglhppcfdpcaaa.E
namespace Go.Proofs.Ytdglhppcfdpcaaa.E
open Go Go.RowKit Go.Shelf

theorem holds_at {L : Ents} (ps : List Nat) {Os : List Objs} (he : ps.map (fun p => L[p]?) = Os.map fun o => some (.c o)) : Holds Os.flatten L := by
  intro x hx
  obtain ⟨o, ho, hxo⟩ := List.mem_flatten.1 hx
  have h1 : some (Ent.c o) ∈ ps.map (fun p => L[p]?) := by rw [he]; exact List.mem_map.2 ⟨o, ho, rfl⟩
  obtain ⟨p, _, hp⟩ := List.mem_map.1 h1
  exact ⟨o, List.mem_of_getElem? hp, hxo⟩
theorem satL_cO : ∀ Os : List Objs, SatL (Os.map .c) Os
  | [] => trivial
  | _ :: Os => ⟨rfl, satL_cO Os⟩
/-- A contract's entries, told as they stand. -/
theorem atC {Q : Objs → Prop} {bs : Objs} {L L' : Ents} (hx : Q bs) (h : ∀ cs, SatL L' cs → SatL L cs) : ∀ cs, SatL (.c bs :: L') cs → SatL (.p Q :: L) cs
  | [], hs => hs.elim
  | d :: cs, hs => ⟨by rw [show d = bs from hs.1]; exact hx, h cs hs.2⟩
theorem atS {x : Ent} {L L' : Ents} (h : ∀ cs, SatL L' cs → SatL L cs) : ∀ cs, SatL (x :: L') cs → SatL (x :: L) cs
  | [], hs => hs.elim
  | _ :: cs, hs => ⟨hs.1, h cs hs.2⟩
theorem Con.v {P : Program} {f : FuncId} {args : Array Value} {rd : Ents} {O : List Nat} {wt : Env → Ents} {v v' : Env → Value} (h : Con P f args rd O wt v) (e : ∀ E, v E = v' E) : Con P f args rd O wt v' := by
  rwa [show v' = v from funext fun E => (e E).symm]
section
variable {R : List Nat} {base W W' : World} {Os : List Objs}
theorem OwnE.ndC (h : OwnE R base (Os.map .c) W) : Os.flatten.Pairwise fun x y => x.1 ≠ y.1 := by
  obtain ⟨cs, hs, hO⟩ := h.conc
  rw [satL_cE hs] at hO
  exact hO.nd
variable {J : Nat → (Nat → Prop) → World → Prop} {W0 wr : World} {LE : Ents} {j : Nat}
/-- An iterator at work: what it reads, and what it has made, stands in the list of its entries. -/
structure ItC (J : Nat → (Nat → Prop) → World → Prop) (Os : List Objs) (W0 : World) (j : Nat) (R : List Nat) (base : World) : Prop where
  ex : ∃ L, ItS J Os.flatten W0 L j base ∧ R = (Os.flatten ++ L).map (·.1)
def ItL (J : Nat → (Nat → Prop) → World → Prop) (Os : List Objs) (W0 : World) (LE : Ents) (j : Nat) (wr : World) : Prop := ∃ ds, SatL LE ds ∧ ItS J Os.flatten W0 ds.flatten j wr
theorem ItC.step (h : Hid (ItC J Os W0 j R base)) (hJ : StayO J) (hO : OwnE R base (Os.map .c ++ LE) W') : ItL J Os W0 LE j W' := by
  obtain ⟨L, h1, rfl⟩ := h.out.ex
  exact h1.stepE hJ (fun ds hd => by rw [satL_cE hd]) hO
theorem ItL.start (h : ItL J Os W0 LE j wr) : ∃ R, Hid (ItC J Os W0 j R wr) ∧ Hid (OwnE R wr (Os.map .c ++ LE) wr) := by
  obtain ⟨ds, hs, hI⟩ := h
  refine ⟨_, Lib.hid ⟨_, hI, rfl⟩, Lib.hid ?_⟩
  have h1 := OwnE.start (w := wr) (satL_app (satL_cO Os) hs) (by rw [List.flatten_append]; exact hI.has)
  rw [List.flatten_append] at h1
  exact h1
theorem ItL.zero (h : ItS J Os.flatten W0 [] 0 W0) : ItL J Os W0 [] 0 W0 := ⟨[], trivial, h⟩
theorem ItL.leaf (h : ItL J Os W0 LE j wr) : ∃ L, ItS J Os.flatten W0 L j wr := by
  obtain ⟨ds, _, hI⟩ := h
  exact ⟨_, hI⟩
end
end Go.Proofs.Ytdglhppcfdpcaaa.E
namespace Go.Proofs.Ytdglhppcfdpcaaa.E
open Go Go.RowKit Go.Shelf
set_option linter.unusedVariables false
/-- v is a slice from which xs can be read, and which has room for them. -/
def SqE {α : Type} (en : α → List Value) (v : Value) (xs : List α) : Objs → Prop := fun bs => SrE en v xs bs ∧ ∃ a r, v = .slice a xs.length (xs.length + r)
section
variable {α : Type} {P : Program} {en : α → List Value} {z : List Value} {T : TypeId} {v : Value} {xs : List α} {bs : Objs}
theorem SlE.sq (h : SlE en z T v xs bs) : SqE en v xs bs := ⟨h.src, h.slice⟩
theorem SqE.one (h : SqE en v xs bs) : v.oneCell' = true := h.1.one
theorem SqE.drop {k : Nat} (hk : ∀ y, (en y).length = k) (h : SqE en v xs bs) {l : Nat} (hl : l ≤ xs.length) : SqE en (sbV v l xs.length k) (xs.drop l) bs := by
  obtain ⟨h1, a, r, rfl⟩ := h
  have hlen : (xs.drop l).length = xs.length - l := List.length_drop
  refine ⟨?_, ?_⟩
  · by_cases e : l = xs.length
    · subst e
      refine .inl ⟨List.drop_length, ?_⟩
      simp only [sbV, sliced, Nat.sub_self]
      exact ⟨_, _, rfl⟩
    · obtain ⟨g, off, cs, t, fr, c, h2, h3, h4⟩ := h1.some (i := l) (by omega)
      injection h2 with e1 e2 e3
      subst e1
      refine .inr ⟨g, off + l * k, cs, t, fr, xs.length + r - l, ?_, h3, ?_⟩
      · simp only [sbV, sliced]
        rw [if_neg (by omega), hlen]
        simp only [Option.map_some]
        rw [show (⟨g, off, none⟩ : Addr).add (l * k) = ⟨g, off + l * k, none⟩ from by unfold Addr.add; split <;> simp_all]
      · have h5 : slF en xs = slF en (xs.take l) ++ slF en (xs.drop l) := by rw [← slF_app, List.take_append_drop]
        have h6 : (slF en (xs.take l)).length = l * k := by rw [slF_lenk hk rfl, List.length_take]; congr 1; omega
        rw [← List.drop_drop]
        have h7 : (((cs.toList.drop off).take (slF en xs).length).drop (l * k)) = (slF en xs).drop (l * k) := congrArg (fun y => y.drop (l * k)) h4
        rw [List.drop_take] at h7
        have h8 : (slF en xs).drop (l * k) = slF en (xs.drop l) := by
          conv => lhs; rw [h5]
          rw [← h6, List.drop_left]
        rw [h8] at h7
        rw [show (slF en (xs.drop l)).length = (slF en xs).length - l * k by rw [h5, List.length_append, h6]; omega]
        exact h7
  · simp only [sbV, sliced]
    exact ⟨_, r, by rw [hlen]; congr 1; omega⟩
theorem slR_ok (p : Nat) (x : Ent) (l s : Nat) (h : ∀ bs, x.sat bs → SqE en v xs bs) (hl : l ≤ xs.length) : MD.ok P (fun _ => sbV v l xs.length s) (slLD P p x v l s) [] := by
  intro o ρ C he w c hH
  unfold slLD at he hH ⊢
  split at he
  · rename_i T' a b hop
    simp only [hop] at hH ⊢
    simp only [List.mem_cons, List.not_mem_nil, or_false, forall_eq_or_imp, forall_eq, sE] at he
    obtain ⟨ha, hb, hT⟩ := he
    obtain ⟨h1, h2⟩ := hH.ent
    obtain ⟨a0, r, rfl⟩ := (h _ h1).2
    have hu : P.underlying T' = some (.slice (P.elem T')) := congrArg (·.1) hT
    have hr : (Instr.sliceAt T' (.slice a0 xs.length (xs.length + r)) (some (.int .i64 (l : Int))) none none).run P w = .ok (sliced a0 l xs.length (xs.length + r) s) w := by
      rw [run_sliceAt_slice (h := hu), run_slice_l (ht := hu) (kl := .i64) (l := (l : Int)) (h0 := by omega) (h1 := by omega), run_sizeOf (congrArg (·.2) hT)]
      simp only [Result.andThen_ok, Int.toNat_natCast]
    refine ⟨Env.zero, fun _ => [], w, .inl ?_, fun x h => by simp at h, by simpa using Step.refl w⟩
    unfold execOp
    simp only [hop, ha, Option.map_some, Option.map_none, hb, Sem.run_bind, hr, Result.andThen_ok, Sem.run_pure, sbV]
  · exact (sB_false he).elim
def slR (p : Nat) (x : Ent) (l s : Nat) (h : ∀ bs, x.sat bs → SqE en v xs bs) (hl : l ≤ xs.length) : MH P (fun _ => sbV v l xs.length s) := ⟨[], slLD P p x v l s, slR_ok p x l s h hl⟩
end
theorem HasC.hd {a : Nat × Ent} {qs : Wr} {c : Cnc} {w : World} (h : HasC (a :: qs) c w) : HasC [a] c w := by
  have hh := h.has
  simp only [List.flatMap_cons] at hh
  exact ⟨fun x hx => h.sat x (by rw [List.mem_singleton.1 hx]; simp), by simpa using (⟨fun x hx => hh.obj x (List.mem_append_left _ hx), (List.pairwise_append.1 hh.nd).1⟩ : Has (c a.1) w)⟩
/-- A contract's entry, told by what is more. -/
theorem atW {Q Q' : Objs → Prop} {L L' : Ents} (hx : ∀ bs, Q bs → Q' bs) (h : ∀ cs, SatL L' cs → SatL L cs) : ∀ cs, SatL (.p Q :: L') cs → SatL (.p Q' :: L) cs
  | [], hs => hs.elim
  | d :: cs, hs => ⟨hx d hs.1, h cs hs.2⟩
end Go.Proofs.Ytdglhppcfdpcaaa.E
