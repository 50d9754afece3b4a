/- Slices that are only read, with their room; parts of them. No program in sight. -/
import Derived.Test.YtdglhppcfdpcaaaEs
namespace Go.Proofs.Ytdglhppcfdpcaaa.E
open Go Go.RowKit Go.Shelf
set_option linter.unusedVariables false
/-- v is a slice from which xs can be read, and which has room for them. -/
def SqE {α : Type} (en : α → List Value) (v : Value) (xs : List α) : Objs → Prop := fun bs => SrE en v xs bs ∧ ∃ a r, v = .slice a xs.length (xs.length + r)
section
variable {α : Type} {P : Program} {en : α → List Value} {z : List Value} {T : TypeId} {v : Value} {xs : List α} {bs : Objs}
theorem SlE.sq (h : SlE en z T v xs bs) : SqE en v xs bs := ⟨h.src, h.slice⟩
theorem SqE.one (h : SqE en v xs bs) : v.oneCell' = true := h.1.one
theorem SqE.drop {k : Nat} (hk : ∀ y, (en y).length = k) (h : SqE en v xs bs) {l : Nat} (hl : l ≤ xs.length) : SqE en (sbV v l xs.length k) (xs.drop l) bs := by
  obtain ⟨h1, a, r, rfl⟩ := h
  have hlen : (xs.drop l).length = xs.length - l := List.length_drop
  refine ⟨?_, ?_⟩
  · by_cases e : l = xs.length
    · subst e
      refine .inl ⟨List.drop_length, ?_⟩
      simp only [sbV, sliced, Nat.sub_self]
      exact ⟨_, _, rfl⟩
    · obtain ⟨g, off, cs, t, fr, c, h2, h3, h4⟩ := h1.some (i := l) (by omega)
      injection h2 with e1 e2 e3
      subst e1
      refine .inr ⟨g, off + l * k, cs, t, fr, xs.length + r - l, ?_, h3, ?_⟩
      · simp only [sbV, sliced]
        rw [if_neg (by omega), hlen]
        simp only [Option.map_some]
        rw [show (⟨g, off, none⟩ : Addr).add (l * k) = ⟨g, off + l * k, none⟩ from by unfold Addr.add; split <;> simp_all]
      · have h5 : slF en xs = slF en (xs.take l) ++ slF en (xs.drop l) := by rw [← slF_app, List.take_append_drop]
        have h6 : (slF en (xs.take l)).length = l * k := by rw [slF_lenk hk rfl, List.length_take]; congr 1; omega
        rw [← List.drop_drop]
        have h7 : (((cs.toList.drop off).take (slF en xs).length).drop (l * k)) = (slF en xs).drop (l * k) := congrArg (fun y => y.drop (l * k)) h4
        rw [List.drop_take] at h7
        have h8 : (slF en xs).drop (l * k) = slF en (xs.drop l) := by
          conv => lhs; rw [h5]
          rw [← h6, List.drop_left]
        rw [h8] at h7
        rw [show (slF en (xs.drop l)).length = (slF en xs).length - l * k by rw [h5, List.length_append, h6]; omega]
        exact h7
  · simp only [sbV, sliced]
    exact ⟨_, r, by rw [hlen]; congr 1; omega⟩
theorem slR_ok (p : Nat) (x : Ent) (l s : Nat) (h : ∀ bs, x.sat bs → SqE en v xs bs) (hl : l ≤ xs.length) : MD.ok P (fun _ => sbV v l xs.length s) (slLD P p x v l s) [] := by
  intro o ρ C he w c hH
  unfold slLD at he hH ⊢
  split at he
  · rename_i T' a b hop
    simp only [hop] at hH ⊢
    simp only [List.mem_cons, List.not_mem_nil, or_false, forall_eq_or_imp, forall_eq, sE] at he
    obtain ⟨ha, hb, hT⟩ := he
    obtain ⟨h1, h2⟩ := hH.ent
    obtain ⟨a0, r, rfl⟩ := (h _ h1).2
    have hu : P.underlying T' = some (.slice (P.elem T')) := congrArg (·.1) hT
    have hr : (Instr.sliceAt T' (.slice a0 xs.length (xs.length + r)) (some (.int .i64 (l : Int))) none none).run P w = .ok (sliced a0 l xs.length (xs.length + r) s) w := by
      rw [run_sliceAt_slice (h := hu), run_slice_l (ht := hu) (kl := .i64) (l := (l : Int)) (h0 := by omega) (h1 := by omega), run_sizeOf (congrArg (·.2) hT)]
      simp only [Result.andThen_ok, Int.toNat_natCast]
    refine ⟨Env.zero, fun _ => [], w, .inl ?_, fun x h => by simp at h, by simpa using Step.refl w⟩
    unfold execOp
    simp only [hop, ha, Option.map_some, Option.map_none, hb, Sem.run_bind, hr, Result.andThen_ok, Sem.run_pure, sbV]
  · exact (sB_false he).elim
def slR (p : Nat) (x : Ent) (l s : Nat) (h : ∀ bs, x.sat bs → SqE en v xs bs) (hl : l ≤ xs.length) : MH P (fun _ => sbV v l xs.length s) := ⟨[], slLD P p x v l s, slR_ok p x l s h hl⟩
end
theorem HasC.hd {a : Nat × Ent} {qs : Wr} {c : Cnc} {w : World} (h : HasC (a :: qs) c w) : HasC [a] c w := by
  have hh := h.has
  simp only [List.flatMap_cons] at hh
  exact ⟨fun x hx => h.sat x (by rw [List.mem_singleton.1 hx]; simp), by simpa using (⟨fun x hx => hh.obj x (List.mem_append_left _ hx), (List.pairwise_append.1 hh.nd).1⟩ : Has (c a.1) w)⟩
/-- An aggregate is written that holds slices: each is told by an entry. -/
def svD (P : Program) (p g off : Nat) (t : TypeId) (l : List Value) (cs cs' : Array Value) (qs : Wr) (o : Oper) (ρ : Operand → Value) (_ : Mem) : MD := match o.op with
  | .store T x y => ⟨(p, ob g cs t) :: qs, fun _ => [(p, ob g cs' t)], [sE (adr (ρ x)) (some (g, off)), sE (aggL (ρ y)) (some l), sE ((P.info? T).map (·.size)) (some l.length)]⟩
  | _ => MD.bad
theorem sv_ok {P : Program} (p g off : Nat) (t : TypeId) (l : List Value) (cs cs' : Array Value) (qs : Wr) (h : cs.toList.take off ++ l ++ cs.toList.drop (off + l.length) = cs'.toList) (hb : off + l.length ≤ cs.size) (h1 : ∀ c : Cnc, (∀ x ∈ qs, x.2.sat (c x.1)) → ∀ u ∈ l, u.oneCell' = true) : MD.ok P (fun _ => undef) (svD P p g off t l cs cs' qs) [p] := by
  intro o ρ C he w c hH
  unfold svD at he hH ⊢
  split at he
  · rename_i T x y hop
    simp only [hop] at hH ⊢
    simp only [List.mem_cons, List.not_mem_nil, or_false, forall_eq_or_imp, forall_eq, sE] at he
    obtain ⟨ha, hv, h4⟩ := he
    have h9 := h1 c fun x hx => hH.sat x (List.mem_cons_of_mem _ hx)
    obtain ⟨hc, hbk⟩ := hH.hd.one
    have e : cs' = (cs.toList.take off ++ l ++ cs.toList.drop (off + l.length)).toArray := by rw [h]
    subst e
    refine ⟨Env.zero, fun _ => [(g, .cells (cs.toList.take off ++ l ++ cs.toList.drop (off + l.length)).toArray t (0, 0))], _, .inr ⟨?_, by simp⟩, fun z h => ?_, by rw [show ([p].flatMap fun p => ids (c p)) = _ by simp only [List.flatMap_cons, List.flatMap_nil, hc, ids]; rfl]; exact Step.setRow (cs.toList.take off ++ l ++ cs.toList.drop (off + l.length)).toArray hbk⟩
    · unfold execOp
      simp only [hop, adr_some ha, aggL_some hv, Instr.storeAt, Instr.sureAddr, Sem.run_bind, Sem.run_pure, Result.andThen_ok, run_stL hbk hb h9 h4]
    · rw [List.mem_singleton.1 h]
      rfl
  · exact (sB_false he).elim
def sv {P : Program} (p g off : Nat) (t : TypeId) (l : List Value) (cs cs' : Array Value) (qs : Wr) (h : cs.toList.take off ++ l ++ cs.toList.drop (off + l.length) = cs'.toList) (hb : off + l.length ≤ cs.size) (h1 : ∀ c : Cnc, (∀ x ∈ qs, x.2.sat (c x.1)) → ∀ u ∈ l, u.oneCell' = true) : MH P (fun _ => undef) := ⟨[p], svD P p g off t l cs cs' qs, sv_ok p g off t l cs cs' qs h hb h1⟩
theorem oc {u : Value} {l : List Value} (h : u.oneCell' = true) (h' : ∀ x ∈ l, x.oneCell' = true) : ∀ x ∈ u :: l, x.oneCell' = true := List.forall_mem_cons.2 ⟨h, h'⟩
theorem on0 : ∀ x ∈ ([] : List Value), x.oneCell' = true := fun x h => by simp at h
/-- A contract's entry, told by what is more. -/
theorem atW {Q Q' : Objs → Prop} {L L' : Ents} (hx : ∀ bs, Q bs → Q' bs) (h : ∀ cs, SatL L' cs → SatL L cs) : ∀ cs, SatL (.p Q :: L') cs → SatL (.p Q' :: L) cs
  | [], hs => hs.elim
  | d :: cs, hs => ⟨hx d hs.1, h cs hs.2⟩
end Go.Proofs.Ytdglhppcfdpcaaa.E
