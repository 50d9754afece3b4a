/- Slices that are only read: their first part; what an iterator yields of its own. No program in sight. -/
import Derived.Test.YtdglhppcfdpcaaaEt
import Derived.Test.YtdglhppcfdpcaaaEu
set_option linter.unusedVariables false
namespace Go.Proofs.Ytdglhppcfdpcaaa.E
open Go Go.RowKit Go.Shelf

section
variable {α : Type} {P : Program} {en : α → List Value} {z : List Value} {T : TypeId} {v : Value} {xs : List α} {bs : Objs}
theorem SqE.take {k : Nat} (hk : ∀ y, (en y).length = k) (h : SqE en v xs bs) {m : Nat} (hm : m ≤ xs.length) : SqE en (sbV v 0 m k) (xs.take m) bs := by
  obtain ⟨h1, a, r, rfl⟩ := h
  have hlen : (xs.take m).length = m := by rw [List.length_take]; omega
  have hv : ∃ a', sbV (.slice a xs.length (xs.length + r)) 0 m k = .slice a' m (xs.length + r) ∧ (∀ g off, a = some ⟨g, off, none⟩ → a' = some ⟨g, off, none⟩) := by
    simp only [sbV, sliced, Nat.sub_zero, Nat.zero_mul]
    refine ⟨_, rfl, fun g off he => ?_⟩
    subst he
    split
    · rfl
    · simp only [Option.map_some]
      unfold Addr.add
      split <;> simp_all
  obtain ⟨a', e1, e2⟩ := hv
  rw [e1]
  refine ⟨?_, a', xs.length - m + r, by rw [hlen]; congr 1; omega⟩
  by_cases e : m = 0
  · subst e
    exact .inl ⟨List.take_zero, _, _, rfl⟩
  · obtain ⟨g, off, cs, t, fr, c, h2, h3, h4⟩ := h1.some (i := 0) (by omega)
    injection h2 with g1 g2 g3
    refine .inr ⟨g, off, cs, t, fr, _, by rw [e2 _ _ g1, hlen], h3, ?_⟩
    have h5 : slF en xs = slF en (xs.take m) ++ slF en (xs.drop m) := by rw [← slF_app, List.take_append_drop]
    have h7 := congrArg (fun y => y.take (slF en (xs.take m)).length) h4
    rw [List.take_take, h5, List.length_append, Nat.min_eq_left (Nat.le_add_right _ _), List.take_left] at h7
    exact h7
def slHD (P : Program) (p : Nat) (x : Ent) (v : Value) (m s : Nat) (o : Oper) (ρ : Operand → Value) (_ : Mem) : MD := match o.op with
  | .slice T a none (some b) none => ⟨[(p, x)], fun _ => [], [sE (ρ a) v, sE (ρ b) (.int .i64 (m : Int)), sE (P.underlying T, sizB P (P.elem T)) (some (.slice (P.elem T)), some s)]⟩
  | _ => MD.bad
/-- u[:m]. -/
theorem slH_ok (p : Nat) (x : Ent) (m s : Nat) (h : ∀ bs, x.sat bs → SqE en v xs bs) (hm : m ≤ xs.length) : MD.ok P (fun _ => sbV v 0 m s) (slHD P p x v m s) [] := by
  intro o ρ C he w c hH
  unfold slHD at he hH ⊢
  split at he
  · rename_i T' a b hop
    simp only [hop] at hH ⊢
    simp only [List.mem_cons, List.not_mem_nil, or_false, forall_eq_or_imp, forall_eq, sE] at he
    obtain ⟨ha, hb, hT⟩ := he
    obtain ⟨h1, h2⟩ := hH.ent
    obtain ⟨a0, r, rfl⟩ := (h _ h1).2
    have hu : P.underlying T' = some (.slice (P.elem T')) := congrArg (·.1) hT
    have hr : (Instr.sliceAt T' (.slice a0 xs.length (xs.length + r)) none (some (.int .i64 (m : Int))) none).run P w = .ok (sliced a0 0 m (xs.length + r) s) w := by
      rw [run_sliceAt_slice (h := hu), run_slice_h (ht := hu) (kh := .i64) (h := (m : Int)) (h0 := by omega) (h2 := by omega), run_sizeOf (congrArg (·.2) hT)]
      simp only [Result.andThen_ok, Int.toNat_natCast]
    refine ⟨Env.zero, fun _ => [], w, .inl ?_, fun x h => by simp at h, by simpa using Step.refl w⟩
    unfold execOp
    simp only [hop, ha, Option.map_some, Option.map_none, hb, Sem.run_bind, hr, Result.andThen_ok, Sem.run_pure, sbV]
  · exact (sB_false he).elim
def slH (p : Nat) (x : Ent) (m s : Nat) (h : ∀ bs, x.sat bs → SqE en v xs bs) (hm : m ≤ xs.length) : MH P (fun _ => sbV v 0 m s) := ⟨[], slHD P p x v m s, slH_ok p x m s h hm⟩
end
/-- What a round is given: a key, a slice, and the blocks behind it. -/
structure Yd (γ : Type) where
  k : Int
  ys : List γ
  u : Value
  d : Objs
def Yd.enc {γ : Type} (x : Yd γ) : Array Value := #[.int .i64 x.k, x.u]
def YdX {γ : Type} (Q : Value → List γ → Objs → Prop) (gs : List (Int × List γ)) (j : Nat) (x : Yd γ) : Prop := gs[j]? = some (x.k, x.ys) ∧ Q x.u x.ys x.d
theorem YdX.of {γ : Type} {Q : Value → List γ → Objs → Prop} {gs : List (Int × List γ)} {LE : Ents} {dY : List Objs} {j : Nat} {k : Int} {u : Value} {ys : List γ} (p : Nat) (hs : SatL LE dY) (hp : LE[p]? = some (.p (Q u ys))) (hg : gs[j]? = some (k, ys)) : YdX Q gs j ⟨k, ys, u, dY.getD p []⟩ := ⟨hg, satL_get hs hp⟩
theorem mem_flatD (dY : List Objs) (p : Nat) : ∀ y ∈ dY.getD p [], y ∈ dY.flatten := by
  intro y hy
  by_cases h : p < dY.length
  · exact List.mem_flatten.2 ⟨_, mem_getD h, hy⟩
  · rw [List.getD_eq_getElem?_getD, List.getElem?_eq_none (by omega)] at hy
    simp at hy
theorem nd_flatD {J : Nat → (Nat → Prop) → World → Prop} {K : Objs} {W0 wr : World} {dY : List Objs} {j : Nat} (h : ItS J K W0 dY.flatten j wr) (p : Nat) : (dY.getD p []).Pairwise fun x y => x.1 ≠ y.1 := by
  by_cases hp : p < dY.length
  · exact (List.pairwise_flatten.1 (List.pairwise_append.1 h.has.nd).2.1).1 _ (mem_getD hp)
  · rw [List.getD_eq_getElem?_getD, List.getElem?_eq_none (by omega)]
    exact List.Pairwise.nil
end Go.Proofs.Ytdglhppcfdpcaaa.E
