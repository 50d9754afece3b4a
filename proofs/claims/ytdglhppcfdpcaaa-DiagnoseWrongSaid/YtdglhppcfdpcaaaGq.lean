/- Ranges over functions that yield slices of their own: their walks. No program in sight. -/
import Derived.Test.YtdglhppcfdpcaaaGoY
import Derived.Test.YtdglhppcfdpcaaaGz
import Derived.Test.YtdglhppcfdpcaaaEu
set_option linter.unusedVariables false
namespace Go.Proofs.Ytdglhppcfdpcaaa.E
open Go Go.RowKit Go.Shelf
/-- What a round is given: a key, a slice, and the blocks behind it. -/
structure Yd (γ : Type) where
  k : Int
  ys : List γ
  u : Value
  d : Objs
def Yd.enc {γ : Type} (x : Yd γ) : Array Value := #[.int .i64 x.k, x.u]
def YdX {γ : Type} (Q : Value → List γ → Objs → Prop) (gs : List (Int × List γ)) (j : Nat) (x : Yd γ) : Prop := gs[j]? = some (x.k, x.ys) ∧ Q x.u x.ys x.d
theorem YdX.of {γ : Type} {Q : Value → List γ → Objs → Prop} {gs : List (Int × List γ)} {LE : Ents} {dY : List Objs} {j : Nat} {k : Int} {u : Value} {ys : List γ} (p : Nat) (hs : SatL LE dY) (hp : LE[p]? = some (.p (Q u ys))) (hg : gs[j]? = some (k, ys)) : YdX Q gs j ⟨k, ys, u, dY.getD p []⟩ := ⟨hg, satL_get hs hp⟩
theorem mem_flatD (dY : List Objs) (p : Nat) : ∀ y ∈ dY.getD p [], y ∈ dY.flatten := by
  intro y hy
  by_cases h : p < dY.length
  · exact List.mem_flatten.2 ⟨_, mem_getD h, hy⟩
  · rw [List.getD_eq_getElem?_getD, List.getElem?_eq_none (by omega)] at hy
    simp at hy
theorem nd_flatD {J : Nat → (Nat → Prop) → World → Prop} {K : Objs} {W0 wr : World} {dY : List Objs} {j : Nat} (h : ItS J K W0 dY.flatten j wr) (p : Nat) : (dY.getD p []).Pairwise fun x y => x.1 ≠ y.1 := by
  by_cases hp : p < dY.length
  · exact (List.pairwise_flatten.1 (List.pairwise_append.1 h.has.nd).2.1).1 _ (mem_getD hp)
  · rw [List.getD_eq_getElem?_getD, List.getElem?_eq_none (by omega)]
    exact List.Pairwise.nil
section
variable {F : Fence} {n : Nat} {P : Program} {R : List Nat} {base : World} {Q : Exit → Act → World → Prop} {S : List It} {a : Sl} {sz : Nat} {es : Fe} {L : Ents} {Ds : List Nat}
/-- The end of an assignment. -/
def asY (F : Fence) (n : Nat) (P : Program) (R : List Nat) (base : World) (sz : Nat) (KO D : Objs) (Q : List Nat → World → Exit → Act → World → Prop) (c : Code) : Exit → Act → World → Prop
  | .normal, b, W => ∃ La, OwnE R base (La ++ [.c D]) W ∧ Holds KO La ∧ ∀ R2 W1, OwnE R2 W1 (La ++ [.c D]) W1 → c.wpIn F n P (Q R2 W1) b W1
  | _, _, _ => False
theorem agY {KO : List Objs} {D : Objs} {Q2 : List Nat → World → Exit → Act → World → Prop} {c : Code} (La : Ents) (ps qs : List Nat) (hk : ∀ R2 W2, Go F n P R2 W2 (Q2 R2 W2) [.c c] ⟨sz, es⟩ (La ++ [.c D]) []) (hh : ps.map (fun p => La[p]?) = KO.map (fun o => some (.c o)) := by kernel_rfl)
    (hL : (nodupB (qs.map fun p => [p]).flatten, (qs.map fun p => [p]).map fun g => g.map fun p => L[p]?) = (true, ((La ++ [Ent.c D]).map fun x => [x]).map fun N => N.map some) := by kernel_rfl) (hS : (nf S).isEmpty = true := by kernel_rfl) :
    Go F n P R base (asY F n P R base sz KO.flatten D Q2 c) S ⟨sz, es⟩ L [] := by
  refine ⟨fun b W hb hO => runS_nf 1000 S ?_⟩
  rw [show nfS 1000 S = [] from List.isEmpty_iff.1 hS]
  exact ⟨La, OwnE.pick (by simpa using hO) qs _ hL, holds_at ps hh, fun R2 W1 h => (hk R2 W1).out b W1 hb (by simpa using h)⟩
/-- A body's end. -/
theorem neY {d : Ent} {Rel : Ents → Prop} {Rx : Code → Ents → Prop} (L' : Ents) (hr : Rel L') (ps : List Nat) (hL : (nodupB (ps.map fun p => [p]).flatten, (ps.map fun p => [p]).map fun g => g.map fun p => L[p]?) = (true, ((L' ++ [d]).map fun x => [x]).map fun N => N.map some)) (hS : (nf S).isEmpty = true := by kernel_rfl) : Go F n P R base (endY R base d Rel Rx) S ⟨sz, es⟩ L Ds := by
  refine ⟨fun b W hb hO => runS_nf 1000 S ?_⟩
  rw [show nfS 1000 S = [] from List.isEmpty_iff.1 hS]
  exact ⟨L', hO.left.pick ps _ hL, hr⟩
/-- A range over a function that yields blocks of its own. -/
theorem rfY {α : Type} {gf : Nat} {lb : Array Value} {encs : α → Array Value} {ds : α → Objs} {X : Nat → α → Prop} {N : Nat} {KO : List Objs} (hit : IterYE 5 P gf lb encs ds X N KO.flatten) (eg : Enters P gf) (Rel : Nat → Ents → Prop) (Rx : Code → Nat → Ents → Prop) (ps0 : List Nat) (h0 : Rel 0 L)
    (hKO : ∀ i L', Rel i L' → Holds KO.flatten L') (hKx : ∀ c i L', Rx c i L' → Holds KO.flatten L') (hps : ∀ x, (encs x).size = (psR S).length)
    (hround : ∀ (l i : Nat) (x : α) (L' : Ents) (R1 : List Nat) (W1 : World), X i x → Rel i L' → Go (Fence.wide.inRound l) 4 P R1 W1 (asY (Fence.wide.inRound l) 4 P R1 W1 sz KO.flatten (ds x) (fun R2 W2 => endY R2 W2 (.c (ds x)) (Rel (i + 1)) fun c => Rx c (i + 1)) (bdR S)) [.c (asR S)] ⟨sz, zipE (psR S) (encs x).toList ++ es⟩ (L' ++ [.c (ds x)]) [])
    (hdone : ∀ (D : Nat) (L' : Ents), Rel N L' → Go Fence.wide 6 P R base Q (tlS S) ⟨sz, es⟩ L' (D :: Ds))
    (hstop : ∀ (D : Nat) (c : Code) (i : Nat) (L' : Ents), i < N → Rx c (i + 1) L' → Go Fence.wide 6 P R base Q (.c c :: tlS S) ⟨sz, es⟩ L' (D :: Ds))
    (hc : (isG S, (⟨sz, es⟩ : Sl).ev (fnR S), (psR S).all (Nat.blt · sz), nodupB (ps0.map fun p => [p]).flatten, (ps0.map fun p => [p]).map fun g => g.map fun p => L[p]?) = (true, .func (.func gf) #[] lb, true, true, ((KO.map Ent.c).map fun x => [x]).map fun N => N.map some) := by kernel_rfl)
    (hkn : (match fnR S with | .tmp i => (lk es i).isSome | _ => true) = true := by kernel_rfl) : Go Fence.wide 6 P R base Q S ⟨sz, es⟩ L Ds := by
  have c1 := congrArg (fun x => x.1) hc
  have c2 := congrArg (fun x => x.2.1) hc
  have c3 := congrArg (fun x => x.2.2.1) hc
  have c4 := congrArg (fun x => x.2.2.2) hc
  simp only at c1 c2 c3 c4
  refine ⟨fun b W hb hO => runS_nf 1000 S ?_⟩
  rw [show nfS 1000 S = _ from isG_spec c1]
  show (Code.rangeFunc (fnR S) (psR S).toArray (asR S) (bdR S)).wpIn Fence.wide 6 P (runS Fence.wide 6 P Q (tlS S)) b W
  obtain ⟨R1, OC, OW⟩ := hO.seg
  have hg : b.eval (fnR S) = .func (.func gf) #[] lb := by
    rw [hb.ev fun i hi => by rw [hi] at hkn; exact hkn]
    exact c2
  have hnd : KO.flatten.Pairwise fun x y => x.1 ≠ y.1 := by
    exact OwnE.ndC (Os := KO) (R := R1) (base := W) (W := W) (OW.out.pick ps0 _ c4)
  refine reE_iterY (n := 6) (by omega) hg eg hit Rel Rx OW h0 hKO hKx hnd (fun x => by rw [hps x]; simp) ?_ ?_ ?_
  · intro l i x L' R2 W1 hx hr hO1
    have h := hround l i x L' R2 W1 hx hr
    have hsz : (encs x).toList.length = (psR S).length := by rw [Array.length_toList]; exact hps x
    have hlt : ∀ p ∈ psR S, p < b.tmps.size := fun p hp => by rw [hb.size]; exact Nat.blt_eq ▸ List.all_eq_true.1 c3 p hp
    have hfr : Fr ⟨sz, zipE (psR S) (encs x).toList ++ es⟩ [] { tmps := putP b.tmps (psR S).toArray (encs x), defers := [] } := by
      have ee : encs x = (encs x).toList.toArray := by simp
      refine ⟨?_, fun i v hv => ?_, rfl⟩
      · show (putP b.tmps (psR S).toArray (encs x)).size = sz
        rw [ee, putP_size]; exact hb.size
      · show (putP b.tmps (psR S).toArray (encs x)).getD i undef = v
        rw [ee, putP_get _ _ _ i hsz.symm hlt]
        simp only [lk_append] at hv
        cases h1 : lk (zipE (psR S) (encs x).toList) i with
        | some u => rw [h1] at hv; cases hv; rfl
        | none => rw [h1] at hv; exact hb.get i v hv
    refine wpIn_mono (show (asR S).wpIn (Fence.wide.inRound l) 4 P _ _ W1 from h.out _ W1 hfr (by simpa using hO1.out)) fun e a' Wa hq => ?_
    cases e with
    | normal =>
      obtain ⟨La, q1, q2, q3⟩ := hq
      exact ⟨La, q1, q2, fun R3 W3 h3 => q3 R3 W3 h3.out⟩
    | _ => exact hq
  · intro D L' W2 hr hO2
    obtain ⟨R3, OC3, OW3⟩ := Clo.markE OC.out hO2.out
    exact (hdone D L' hr).out _ W2 ⟨hb.size, hb.get, by show markD D :: b.defers = _; rw [hb.defers]; rfl⟩ (OC3.out.whole OW3.out)
  · intro D c i L' W2 hi hr hO2
    obtain ⟨R3, OC3, OW3⟩ := Clo.markE OC.out hO2.out
    exact (hstop D c i L' hi hr).out _ W2 ⟨hb.size, hb.get, by show markD D :: b.defers = _; rw [hb.defers]; rfl⟩ (OC3.out.whole OW3.out)
end
/-- What yields are promised, of blocks of the iterator's own. -/
def YldY {α : Type} (P : Program) (l : Nat) (J Jx : Nat → (Nat → Prop) → World → Prop) (KO : Objs) (W0 : World) (encs : α → Array Value) (ds : α → Objs) (X : Nat → α → Prop) : Prop :=
  ∀ (L : Objs) (j : Nat) (x : α) (wr : World), X j x → (∀ y ∈ ds x, y ∈ L) → (ds x).Pairwise (fun x y => x.1 ≠ y.1) → ItS J KO W0 L j wr → YieldAt Fence.wide 4 P l (encs x) wr fun e W' => (e = .returned (.bool true) ∧ ItS J KO W0 L (j + 1) W') ∨ (e = .returned (.bool false) ∧ ∃ O', Jx (j + 1) O' W')
section
variable {P : Program} {R : List Nat} {base : World} {Q : Exit → Act → World → Prop} {S : List It} {sz : Nat} {es : Fe} {L : Ents}
variable {gf : Nat} {fn : Func} {lb : Array Value} {KO : List Objs} {J Jx : Nat → (Nat → Prop) → World → Prop} {W0 : World} {l j : Nat}
/-- An iterator's contract, from its body. -/
theorem giY {α : Type} {encs : α → Array Value} {ds : α → Objs} {X : Nat → α → Prop} {N : Nat} (hf : P.funcs[gf]? = some fn) (h : ∀ l J Jx W0 R, StayO J → YldY P l J Jx KO.flatten W0 encs ds X → Hid (ItC J KO W0 0 R W0) → Go Fence.wide 5 P R W0 (itQ P fn J Jx KO.flatten W0 N) [.c (bodyC fn)] ⟨fn.ntmps, argE 0 (.func (.yield l) #[] #[] :: lb.toList)⟩ (KO.map .c) [])
    (hc : (fn.body.isSome, Nat.ble (lb.size + 1) fn.ntmps) = (true, true) := by kernel_rfl) : IterYE 5 P gf lb encs ds X N KO.flatten := by
  refine iterY_of fun l J Jx W KX NX hJ hKX hNX hY h0 => ?_
  have hKX' := hKX.out
  have hNX' := hNX.out
  subst hKX' hNX'
  obtain ⟨R, hI, hO⟩ := ItL.start (ItL.zero h0.out)
  obtain ⟨c, hb⟩ := Option.isSome_iff_exists.1 (congrArg (·.1) hc)
  have hn : lb.size + 1 ≤ fn.ntmps := Nat.le_of_ble_eq_true (congrArg (·.2) hc)
  refine callsIn_of_wp_marks hf hb trivial ?_ rfl
  have hz : (#[Value.func (.yield l) #[] #[]] ++ lb).size = lb.size + 1 := by simp; omega
  have h1 := (h l J Jx W R hJ hY.out hI).out { tmps := (#[Value.func (.yield l) #[] #[]] ++ lb) ++ Array.replicate (fn.ntmps - (#[Value.func (.yield l) #[] #[]] ++ lb).size) undef, defers := [] } W ⟨by rw [Array.size_append, hz, Array.size_replicate]; show _ = fn.ntmps; omega, fun i v hv => ?_, rfl⟩ (by simpa using hO.out)
  · rw [show bodyC fn = c by unfold bodyC; rw [hb]; rfl] at h1
    exact h1
  · obtain ⟨_, h2⟩ := argE_get hv
    rw [Nat.sub_zero] at h2
    have h3 : i < lb.size + 1 := by have := (List.getElem?_eq_some_iff.1 h2).1; simpa using this
    have h4 : (#[Value.func (.yield l) #[] #[]] ++ lb)[i]? = some v := by rw [← Array.getElem?_toList]; simpa using h2
    rw [Array.getD_eq_getD_getElem?, Array.getElem?_append_left (by rw [hz]; exact h3), h4]
    rfl
/-- A yield: what lies ahead of it in its region is told as a region is; xs[j]? is yielded. -/
theorem iyY {γ : Type} {Q0 : Value → List γ → Objs → Prop} {gs : List (Int × List γ)} [hR : Rt Q (itQ P fn J Jx KO.flatten W0 gs.length)] (hJ : StayO J) (hY : YldY P l J Jx KO.flatten W0 Yd.enc Yd.d (YdX Q0 gs)) (hI : Hid (ItC J KO W0 j R base)) (N : Nat) (hs : Envs → List (Nat × Pre P)) (nw : Envs → Fe) (dr : List Nat) (Le : Envs → Ents → Ents) (LE : Envs → Ents) (ps : List Nat) (p : Nat) (k : Int) (ys : List γ) (u : Envs → Value) (hg : gs[j]? = some (k, ys))
    (hk : ∀ η R' W', Hid (ItC J KO W0 (j + 1) R' W') → Go Fence.wide 5 P R' W' Q (tlS S) ⟨sz, (seqV P (opsS S) sz ((opsS S).drop (N + 1)) ((yDst S N, .bool true) :: (nw η ++ dropL dr es))).1⟩ (KO.map .c ++ LE η) [])
    (he : ∀ η, ((isR S, true), (allE ((opsS S).take N) ⟨sz, es⟩ (tP N S ⟨sz, es⟩ L (mR Le L) hs) η 0 ((opsS S).take N) (hsP N S ⟨sz, es⟩ L hs η)).map Eqn.lhs, shapeT (drS S) (opsS S) N (fun k => (depR (drS S) ((opsS S).take N)).getD k []), (List.range (mR Le L)).map (fun p => (tP N S ⟨sz, es⟩ L (mR Le L) hs).at η p ((opsS S).take N).length), (nw η).map (fun x => tellR ((opsS S).take N) ⟨sz, es⟩ (tP N S ⟨sz, es⟩ L (mR Le L) hs) η x.1), freshR ((opsS S).take N) es (nw η) dr) =
      ((true, true), (allE ((opsS S).take N) ⟨sz, es⟩ (tP N S ⟨sz, es⟩ L (mR Le L) hs) η 0 ((opsS S).take N) (hsP N S ⟨sz, es⟩ L hs η)).map Eqn.rhs, true, (Le η L).map some, (nw η).map (fun x => some x.2), true) := by intro _; kernel_rfl)
    (hy : ∀ η, (yChk S N l sz (nw η ++ dropL dr es) [.int .i64 k, u η], (seqV P (opsS S) sz ((opsS S).drop (N + 1)) ((yDst S N, .bool true) :: (nw η ++ dropL dr es))).2.map Eqn.lhs, (seqV P (opsS S) sz ((opsS S).drop (N + 1)) ((yDst S N, .bool false) :: (nw η ++ dropL dr es))).2.map Eqn.lhs, retB 10 (tlS S) (seqV P (opsS S) sz ((opsS S).drop (N + 1)) ((yDst S N, .bool false) :: (nw η ++ dropL dr es))).1) =
      ((true, some [.int .i64 k, u η], some (.func (.yield l) #[] #[])), (seqV P (opsS S) sz ((opsS S).drop (N + 1)) ((yDst S N, .bool true) :: (nw η ++ dropL dr es))).2.map Eqn.rhs, (seqV P (opsS S) sz ((opsS S).drop (N + 1)) ((yDst S N, .bool false) :: (nw η ++ dropL dr es))).2.map Eqn.rhs, true) := by intro _; kernel_rfl)
    (hp : ∀ η, (nodupB (ps.map fun p => [p]).flatten, (ps.map fun p => [p]).map fun g => g.map fun p => (Le η L)[p]?) = (true, ((KO.map Ent.c ++ LE η).map fun x => [x]).map fun N => N.map some) := by intro _; kernel_rfl) (hpk : ∀ η, (LE η)[p]? = some (.p (Q0 (u η) ys)) := by intro _; kernel_rfl) (hres : fn.results.toList = [] := by kernel_rfl) (hm : P.follows .mixedOrders = true := by kernel_rfl) : Go Fence.wide 5 P R base Q S ⟨sz, es⟩ L [] := by
  refine rpre hm N hs nw dr Le (fun η b W hb hO => ?_) he
  have hy1 := congrArg (fun x => x.1) (hy η)
  have hy2 := congrArg (fun x => x.2.1) (hy η)
  have hy3 := congrArg (fun x => x.2.2.1) (hy η)
  have hy4 := congrArg (fun x => x.2.2.2) (hy η)
  simp only at hy1 hy2 hy3 hy4
  have hO' : OwnE R base (KO.map .c ++ LE η) W := OwnE.pick (by simpa using hO) ps _ (hp η)
  obtain ⟨ds, hds, hIS⟩ := ItC.step hI hJ hO'
  have hx := YdX.of (Q := Q0) p hds (hpk η) hg
  obtain ⟨fn', tmps', asg, bod, hrun, hround⟩ := hY ds.flatten j _ W hx (mem_flatD ds p) (nd_flatD hIS p) hIS
  unfold yChk at hy1
  split at hy1
  · rename_i o ho
    split at hy1
    · rename_i xo ags ats hop
      simp only [Prod.mk.injEq, Bool.and_eq_true, Option.some.injEq] at hy1
      obtain ⟨⟨⟨⟨⟨g1, g2⟩, g3⟩, g4⟩, g5⟩, g6, g7⟩ := hy1
      obtain ⟨d, hd⟩ := Option.isSome_iff_exists.1 g4
      have hyd : yDst S N = d := by unfold yDst; rw [ho]; simp [hd]
      have hdr : (opsS S).drop N = o :: (opsS S).drop (N + 1) := by
        obtain ⟨hlt, e⟩ := List.getElem?_eq_some_iff.1 (show (opsS S)[N]? = some o from ho)
        rw [List.drop_eq_getElem_cons hlt, e]
      rw [hdr]
      have hw : Region.wanted o (yielded (opsS S).toArray b.tmps) = true := wantedV hb g1
      unfold wpListIn
      rw [if_pos hw]
      have hxo : b.eval xo = .func (.yield l) #[] #[] := (knV_ev hb g2).trans g7
      have hag : ags.map b.eval = #[.int .i64 k, u η] := by
        apply Array.toList_inj.1
        rw [Array.toList_map, ← g6]
        exact List.map_congr_left fun q hq => knV_ev hb (List.all_eq_true.1 g3 q hq)
      have hrun2 : (execOp b.eval o).run P W = .ok (.round l fn' tmps' asg bod) W := by
        unfold execOp
        simp only [hop, resolve, hxo, Deferred.ofValue, Sem.run_bind, Sem.run_pure, Result.andThen_ok, invoke]
        rw [hag]
        simpa [Yd.enc] using hrun
      unfold Oper.wpIn
      refine ⟨fun _ _ => trivial, ?_⟩
      rw [Oper.semAt_plain Fence.wide _ o (fun c hc => by rw [hop] at hc; cases hc), hrun2, Oper.uponIn_round]
      refine ⟨fun _ => by omega, hround.mono ?_⟩
      rintro e W' (⟨rfl, h3⟩ | ⟨rfl, O', h3⟩)
      · rw [hyd] at hy2
        obtain ⟨R', hI', hO3⟩ := ItL.start (J := J) (Os := KO) (W0 := W0) (LE := LE η) (j := j + 1) ⟨ds, hds, h3⟩
        have h4 := hk η R' W' hI'
        rw [hyd] at h4
        show wpListIn Fence.wide 5 P (opsS S).toArray _ ((opsS S).drop (N + 1)) (b.put o.dst (.bool true)) W'
        rw [hd]
        have h5 : d < sz := by rw [hd] at g5; exact Nat.blt_eq ▸ g5
        exact seqV_ok (hb.put h5 _) (Eqn.all hy2) fun b' hb' => h4.out b' W' hb' (by simpa using hO3.out)
      · rw [hyd] at hy3 hy4
        show wpListIn Fence.wide 5 P (opsS S).toArray _ ((opsS S).drop (N + 1)) (b.put o.dst (.bool false)) W'
        rw [hd]
        have h5 : d < sz := by rw [hd] at g5; exact Nat.blt_eq ▸ g5
        exact seqV_ok (hb.put h5 _) (Eqn.all hy3) fun b' hb' => retB_ok 10 hy4 hb' (hR.out b' W' (itLeaf hres (by rw [hb'.defers]; rfl) (.inr ⟨j, (List.getElem?_eq_some_iff.1 hg).1, O', h3⟩)))
    · simp at hy1
  · simp at hy1
end
section
variable {P : Program} {R : List Nat} {base : World} {Q : Exit → Act → World → Prop} {S : List It} {sz : Nat} {es : Fe} {L : Ents} {Ds : List Nat}
theorem rfY1 {α : Type} {gf : Nat} {lb : Array Value} {encs : α → Array Value} {ds : α → Objs} {X : Nat → α → Prop} {N : Nat} {KO : List Objs} (hit : IterYE 5 P gf lb encs ds X N KO.flatten) (eg : Enters P gf) (I : Nat → Value → Prop) (LI : Nat → Value → Ents → Ents) (ps0 : List Nat) (u0 : Value) (h0 : I 0 u0) (hL : L = LI 0 u0 L)
    (hround : ∀ (l i : Nat) (u : Value) (x : α) (R1 : List Nat) (W1 : World), X i x → I i u → Go (Fence.wide.inRound l) 4 P R1 W1 (asY (Fence.wide.inRound l) 4 P R1 W1 sz KO.flatten (ds x) (fun R2 W2 => endY R2 W2 (.c (ds x)) (fun L' => ∃ u : Value, I (i + 1) u ∧ L' = LI (i + 1) u L) fun _ _ => False) (bdR S)) [.c (asR S)] ⟨sz, zipE (psR S) (encs x).toList ++ es⟩ (LI i u L ++ [.c (ds x)]) [])
    (hdone : ∀ (D : Nat) (u : Value), I N u → Go Fence.wide 6 P R base Q (tlS S) ⟨sz, es⟩ (LI N u L) (D :: Ds))
    (hK : ∀ i (u : Value), ps0.map (fun p => (LI i u L)[p]?) = KO.map fun o => some (.c o) := by intros; kernel_rfl) (hps : ∀ x, (encs x).size = (psR S).length := by intro _; kernel_rfl)
    (hc : (isG S, (⟨sz, es⟩ : Sl).ev (fnR S), (psR S).all (Nat.blt · sz), nodupB (ps0.map fun p => [p]).flatten, (ps0.map fun p => [p]).map fun g => g.map fun p => L[p]?) = (true, .func (.func gf) #[] lb, true, true, ((KO.map Ent.c).map fun x => [x]).map fun N => N.map some) := by kernel_rfl)
    (hkn : (match fnR S with | .tmp i => (lk es i).isSome | _ => true) = true := by kernel_rfl) : Go Fence.wide 6 P R base Q S ⟨sz, es⟩ L Ds := by
  refine rfY hit eg (fun i L' => ∃ u : Value, I i u ∧ L' = LI i u L) (fun _ _ _ => False) ps0 ⟨u0, h0, hL⟩ (fun i L' h => ?_) (fun _ _ _ h => h.elim) hps (fun l i x L' R1 W1 hx h => ?_) (fun D L' h => ?_) (fun _ _ _ _ _ h => h.elim) hc hkn
  · obtain ⟨u, hI, rfl⟩ := h; exact holds_at ps0 (hK i u)
  · obtain ⟨u, hI, rfl⟩ := h; exact hround l i u x R1 W1 hx hI
  · obtain ⟨u, hI, rfl⟩ := h; exact hdone D u hI
end
end Go.Proofs.Ytdglhppcfdpcaaa.E
