/- Several texts in one: RpD RpE. -/
import Derived.Test.YtckhkagkpldoiaaRpC
import Derived.Test.YtckhkagkpldoiaaDrPX
namespace Go.Proofs.Ytckhkagkpldoiaa.E
open Go
set_option linter.unusedVariables false
structure Rs where
  cl : List Ce
  la : List Fa
  co : List Fa
def rinS (r s n m c mode : Int) (x : Rs) (f : Fa) : Rs := ⟨rinj_1 r s n m c mode x.cl f, rinj_2 r s n m c mode x.la f, rinj_3 r s n m c mode x.co f⟩
def rinN (r s n m c mode : Int) (x : Rs) (f : Fa) : Nat → Rs
  | 0 => x
  | k + 1 => rinS r s n m c mode (rinN r s n m c mode x f k) f
def injN (D : Dr) (f : Fa) : Nat → Dr
  | 0 => D
  | k + 1 => injD (injN D f k) f
/-- The chips are the document's. -/
structure RpR (D : Dr) (r s n m c mode : Int) (x : Rs) : Prop where
  ok : DrOk D
  g0 : D.g0 = r
  g1 : D.g1 = s
  g2 : D.g2 = n
  g3 : D.g3 = m
  g4 : D.g4 = c
  md : D.mode = mode
  la : D.lasts = x.la
  co : D.coming = x.co
  ce : ∀ i, D.cells i = getC x.cl i
  cl : ∀ e ∈ x.cl, e.r.length = 72
  fr : ∀ f ∈ x.co, fright f.x0 f.x1 f.x2 f.x3 f.x4 f.x5 f.x6 f.x7 r s n m c mode = true
theorem flip_two {xs : List UInt8} {b : Int} : (bif decide (forceI xs b 1 = xs) then forceI xs b 0 else forceI xs b 1) = flipI xs b := by
  by_cases h : bitI xs b = lowI 1
  · have h1 : forceI xs b 1 = xs := by unfold forceI; rw [if_pos h]
    rw [decide_eq_true h1]
    show forceI xs b 0 = _
    unfold forceI
    rw [if_neg (by rw [h]; decide)]
  · have h1 : forceI xs b 1 = flipI xs b := by unfold forceI; rw [if_neg h]
    rw [h1]
    by_cases h2 : flipI xs b = xs
    · rw [decide_eq_true h2]
      show forceI xs b 0 = _
      unfold forceI
      split
      · exact h2.symm
      · rfl
    · rw [decide_eq_false h2]; rfl
theorem getC_app2 {xs ys : List Ce} {j : Int} : getC (xs ++ ys) j = bif xs.any (fun a => a.i == j) then getC xs j else getC ys j := by
  induction xs with
  | nil => rfl
  | cons a xs ih =>
    show (bif a.i == j then a.r else getC (xs ++ ys) j) = bif (a.i == j || xs.any fun a => a.i == j) then (bif a.i == j then a.r else getC xs j) else getC ys j
    cases a.i == j
    · exact ih
    · rfl
theorem getC_none {xs : List Ce} {j : Int} (h : xs.any (fun a => a.i == j) = false) : getC xs j = List.replicate 72 0 := by
  induction xs with
  | nil => rfl
  | cons a xs ih =>
    have h : (a.i == j || xs.any fun a => a.i == j) = false := h
    rw [Bool.or_eq_false_iff] at h
    show (bif a.i == j then a.r else getC xs j) = _
    rw [h.1]
    exact ih h.2
theorem putL_get {cl : List Ce} {i : Int} {r : List UInt8} (j : Int) : ∀ {k : Nat}, k ≤ cl.length → getC (putL cl i r k) j = bif i == j then r else getC (cl.take k) j
  | 0, _ => rfl
  | k + 1, hk => by
    have hk' : k < cl.length := hk
    have ih := putL_get j (k := k) (by omega) (cl := cl) (i := i) (r := r)
    have ht : cl.take (k + 1) = cl.take k ++ [cl.getD k zCe] := by
      rw [List.take_add_one, List.getD_eq_getElem?_getD, List.getElem?_eq_getElem hk']; rfl
    rw [ht, getC_app2]
    unfold putL
    by_cases hj : (i == j) = true
    · have hij : i = j := eq_of_beq hj
      rw [hj] at ih ⊢
      have hany : (putL cl i r k).any (fun a => a.i == j) = true ∨ True := .inr trivial
      cases hc : (cl.getD k zCe).i != i
      · exact ih
      · show getC (putL cl i r k ++ [cl.getD k zCe]) j = r
        rw [getC_app2]
        cases ha : (putL cl i r k).any (fun a => a.i == j)
        · have h0 := getC_none ha
          rw [ih] at h0
          have hne : ((cl.getD k zCe).i == j) = false := by
            rw [← hij]
            simpa using hc
          show (bif (cl.getD k zCe).i == j then (cl.getD k zCe).r else List.replicate 72 0) = r
          rw [hne]
          exact h0.symm
        · exact ih
    · have hj : (i == j) = false := by simpa using hj
      rw [hj] at ih ⊢
      have ih : getC (putL cl i r k) j = getC (cl.take k) j := ih
      show getC _ j = bif (cl.take k).any (fun a => a.i == j) then getC (cl.take k) j else getC [cl.getD k zCe] j
      cases hc : (cl.getD k zCe).i != i
      · have hne : ((cl.getD k zCe).i == j) = false := by
          have : (cl.getD k zCe).i = i := by simpa using hc
          rw [this]; exact hj
        show getC (putL cl i r k) j = _
        rw [ih]
        cases ha : (cl.take k).any (fun a => a.i == j)
        · rw [getC_none ha]
          show _ = (bif (cl.getD k zCe).i == j then (cl.getD k zCe).r else List.replicate 72 0)
          rw [hne]; rfl
        · rfl
      · show getC (putL cl i r k ++ [cl.getD k zCe]) j = _
        rw [getC_app2, ih]
        have hA : (putL cl i r k).any (fun a => a.i == j) = (cl.take k).any (fun a => a.i == j) := putL_any hj (by omega)
        rw [hA]
  where
  putL_any {cl : List Ce} {i : Int} {r : List UInt8} {j : Int} (hj : (i == j) = false) : ∀ {k : Nat}, k ≤ cl.length → (putL cl i r k).any (fun a => a.i == j) = (cl.take k).any (fun a => a.i == j)
    | 0, _ => by show (i == j || false) = false; rw [hj]; rfl
    | k + 1, hk => by
      have hk' : k < cl.length := hk
      have ih := putL_any hj (k := k) (by omega) (cl := cl) (i := i) (r := r)
      have ht : cl.take (k + 1) = cl.take k ++ [cl.getD k zCe] := by
        rw [List.take_add_one, List.getD_eq_getElem?_getD, List.getElem?_eq_getElem hk']; rfl
      rw [ht, List.any_append]
      unfold putL
      cases hc : (cl.getD k zCe).i != i
      · have hne : ((cl.getD k zCe).i == j) = false := by
          have : (cl.getD k zCe).i = i := by simpa using hc
          rw [this]; exact hj
        show (putL cl i r k).any _ = _
        rw [ih, show [cl.getD k zCe].any (fun a => a.i == j) = false by show ((cl.getD k zCe).i == j || false) = false; rw [hne]; rfl, Bool.or_false]
      · show (putL cl i r k ++ [cl.getD k zCe]).any _ = _
        rw [List.any_append, ih]
theorem putC_get {cl : List Ce} {i : Int} {r : List UInt8} (j : Int) : getC (putC cl i r) j = bif i == j then r else getC cl j := by
  unfold putC
  rw [putL_get j (Nat.le_refl _), List.take_length]
theorem putL_all {cl : List Ce} {i : Int} {r : List UInt8} (hr : r.length = 72) (h : ∀ e ∈ cl, e.r.length = 72) : ∀ {k : Nat}, k ≤ cl.length → ∀ e ∈ putL cl i r k, e.r.length = 72
  | 0, _, e, he => by
    rw [List.mem_singleton.1 (show e ∈ [_] from he)]; exact hr
  | k + 1, hk, e, he => by
    have hk' : k < cl.length := hk
    unfold putL at he
    cases hc : (cl.getD k zCe).i != i
    · rw [hc] at he
      exact putL_all hr h (by omega) e he
    · rw [hc] at he
      rcases List.mem_append.1 (show e ∈ putL cl i r k ++ [cl.getD k zCe] from he) with he | he
      · exact putL_all hr h (by omega) e he
      · rw [List.mem_singleton.1 he, List.getD_eq_getElem?_getD, List.getElem?_eq_getElem hk']
        exact h _ (List.getElem_mem hk')
theorem putC_all {cl : List Ce} {i : Int} {r : List UInt8} (hr : r.length = 72) (h : ∀ e ∈ cl, e.r.length = 72) : ∀ e ∈ putC cl i r, e.r.length = 72 := putL_all hr h (Nat.le_refl _)
theorem putC_len (cl : List Ce) (i : Int) (r : List UInt8) : (putC cl i r).length ≤ cl.length + 1 := putL_len cl i r _
end Go.Proofs.Ytckhkagkpldoiaa.E
namespace Go.Proofs.Ytckhkagkpldoiaa.E
open Go
set_option linter.unusedVariables false
theorem pl_idx {r s n m c p0 p1 p2 p3 : Int} (h : gholds r s n m c p0 p1 p2 p3 = true) : gindex_0 r s n m c p0 p1 p2 p3 = (((1048576 * p0) + (65536 * p1)) + (64 * p2)) + p3 ∧ gindex_1 r s n m c p0 p1 p2 p3 = 0 := by
  unfold gindex_0 gindex_1
  rw [h]
  refine ⟨?_, rfl⟩
  show pidx p0 p1 p2 p3 = _
  unfold pidx
  omega
theorem fr_holds {k p0 p1 p2 p3 c b v r s n m l mode : Int} (h : fright k p0 p1 p2 p3 c b v r s n m l mode = true) : gholds r s n m l p0 p1 p2 p3 = true := by
  rw [fright_eq] at h
  cases hr : gholds r s n m l p0 p1 p2 p3
  · exfalso
    unfold fright11 at h
    rw [← gholds_eq, hr] at h
    simp at h
  · rfl
theorem fr_kind {k p0 p1 p2 p3 c b v r s n m l mode : Int} (h : fright k p0 p1 p2 p3 c b v r s n m l mode = true) : 1 ≤ k ∧ k ≤ 7 := by
  rw [fright_eq] at h
  have h1 : ¬ k < 1 := fun hk => by
    unfold fright11 at h
    rw [decide_eq_true hk] at h
    simp at h
  have h2 : ¬ 7 < k := fun hk => by
    unfold fright11 at h
    rw [decide_eq_true hk] at h
    simp at h
  omega
section
variable {D : Dr} {r s n m c mode : Int} {x : Rs}
theorem RpR.frF (h : RpR D r s n m c mode x) (f : Fa) : frF D f = fright f.x0 f.x1 f.x2 f.x3 f.x4 f.x5 f.x6 f.x7 r s n m c mode := by
  unfold E.frF
  rw [h.g0, h.g1, h.g2, h.g3, h.g4, h.md]
theorem RpR.inj (h : RpR D r s n m c mode x) {f : Fa} (hf : FaOk f) : RpR (injD D f) r s n m c mode (rinS r s n m c mode x f) ∧ dInject_0 D f = rinj_0 r s n m c mode x.la x.co f := by
  have hok := injD_ok h.ok hf
  have hF := h.frF f
  have e0 : dInject_0 D f = bif !E.frF D f then 10 else bif f.x0 == 1 then gindex_1 D.g0 D.g1 D.g2 D.g3 D.g4 f.x1 f.x2 f.x3 f.x4 else bif flasts f.x0 f.x1 f.x2 f.x3 f.x4 f.x5 f.x6 f.x7 then dadd_0 D.lasts else dadd_0 D.coming := rfl
  rw [e0]
  unfold injD at hok ⊢
  unfold rinS rinj_0 rinj_1 rinj_2 rinj_3
  rw [hF, fright_eq] at hok ⊢
  cases hr : fright11 f.x0 f.x1 f.x2 f.x3 f.x4 f.x5 f.x6 f.x7 r s n m c mode
  · exact ⟨⟨h.ok, h.g0, h.g1, h.g2, h.g3, h.g4, h.md, h.la, h.co, h.ce, h.cl, h.fr⟩, rfl⟩
  rw [hr] at hok
  have hr' := (fright_eq f.x0 f.x1 f.x2 f.x3 f.x4 f.x5 f.x6 f.x7 r s n m c mode).trans hr
  obtain ⟨k1, k2⟩ := fr_kind hr'
  obtain ⟨i0, i1⟩ := pl_idx (fr_holds hr')
  cases h1 : f.x0 == 1
  · rw [h1] at hok
    have hne : f.x0 ≠ 1 := ne_of_beq_false h1
    have hl : flasts f.x0 f.x1 f.x2 f.x3 f.x4 f.x5 f.x6 f.x7 = decide (f.x0 ≤ 5) := by
      unfold flasts
      rw [decide_eq_true (show 2 ≤ f.x0 by omega)]; rfl
    rw [hl] at hok ⊢
    cases h5 : decide (f.x0 ≤ 5)
    · rw [h5] at hok
      refine ⟨⟨hok, h.g0, h.g1, h.g2, h.g3, h.g4, h.md, h.la, ?_, h.ce, h.cl, ?_⟩, ?_⟩
      · show dadd_1 D.coming f = _
        unfold dadd_1
        rw [h.co]; rfl
      · intro g hg
        have hg : g ∈ bif decide (256 ≤ (x.co.length : Int)) then x.co else x.co ++ [f] := hg
        cases h6 : decide (256 ≤ (x.co.length : Int))
        · rw [h6] at hg
          rcases List.mem_append.1 hg with hg | hg
          · exact h.fr g hg
          · rw [List.mem_singleton.1 hg]; exact hr'
        · rw [h6] at hg; exact h.fr g hg
      · show dadd_0 D.coming = _
        unfold dadd_0
        rw [h.co]; rfl
    · rw [h5] at hok
      refine ⟨⟨hok, h.g0, h.g1, h.g2, h.g3, h.g4, h.md, ?_, h.co, h.ce, h.cl, h.fr⟩, ?_⟩
      · show dadd_1 D.lasts f = _
        unfold dadd_1
        rw [h.la]; rfl
      · show dadd_0 D.lasts = _
        unfold dadd_0
        rw [h.la]; rfl
  · rw [h1] at hok
    have hgi : giF D f = (((1048576 * f.x1) + (65536 * f.x2)) + (64 * f.x3)) + f.x4 := by
      unfold giF
      rw [h.g0, h.g1, h.g2, h.g3, h.g4]; exact i0
    have hcl : (bif decide (forceI (getC x.cl ((((1048576 * f.x1) + (65536 * f.x2)) + (64 * f.x3)) + f.x4)) f.x6 1 = getC x.cl ((((1048576 * f.x1) + (65536 * f.x2)) + (64 * f.x3)) + f.x4)) then putC x.cl ((((1048576 * f.x1) + (65536 * f.x2)) + (64 * f.x3)) + f.x4) (forceI (getC x.cl ((((1048576 * f.x1) + (65536 * f.x2)) + (64 * f.x3)) + f.x4)) f.x6 0) else putC x.cl ((((1048576 * f.x1) + (65536 * f.x2)) + (64 * f.x3)) + f.x4) (forceI (getC x.cl ((((1048576 * f.x1) + (65536 * f.x2)) + (64 * f.x3)) + f.x4)) f.x6 1)) = putC x.cl ((((1048576 * f.x1) + (65536 * f.x2)) + (64 * f.x3)) + f.x4) (flipI (getC x.cl ((((1048576 * f.x1) + (65536 * f.x2)) + (64 * f.x3)) + f.x4)) f.x6) := by
      rw [← flip_two]
      cases decide (forceI (getC x.cl ((((1048576 * f.x1) + (65536 * f.x2)) + (64 * f.x3)) + f.x4)) f.x6 1 = getC x.cl ((((1048576 * f.x1) + (65536 * f.x2)) + (64 * f.x3)) + f.x4)) <;> rfl
    refine ⟨⟨hok, h.g0, h.g1, h.g2, h.g3, h.g4, h.md, h.la, h.co, fun j => ?_, ?_, h.fr⟩, ?_⟩
    · show upI D.cells (giF D f) (flipI (D.cells (giF D f)) f.x6) j = getC (bif decide _ then _ else _) j
      rw [hcl, putC_get, hgi, h.ce]
      unfold upI
      by_cases hj : j = (((1048576 * f.x1) + (65536 * f.x2)) + (64 * f.x3)) + f.x4
      · rw [if_pos hj, ← hj, beq_self_eq_true]; rfl
      · rw [if_neg hj, h.ce, show ((((1048576 * f.x1) + (65536 * f.x2)) + (64 * f.x3)) + f.x4 == j) = false from beq_false_of_ne fun e => hj e.symm]; rfl
    · show ∀ e ∈ (bif decide _ then _ else _), _
      rw [hcl]
      exact putC_all (by rw [flipI_length]; exact getC_len h.cl _) h.cl
    · show gindex_1 D.g0 D.g1 D.g2 D.g3 D.g4 f.x1 f.x2 f.x3 f.x4 = 0
      rw [h.g0, h.g1, h.g2, h.g3, h.g4]; exact i1
/-- Where an access goes. -/
theorem RpR.went (h : RpR D r s n m c mode x) (i : Int) : RpR (dwD D) r s n m c mode { x with co := rwent_2 x.co } ∧ dwent_0 D i = rwent_0 x.co i ∧ dwent_1 D = rwent_1 x.co := by
  have hok := dwD_ok h.ok
  unfold dwD at hok ⊢
  unfold dwent_0 dwent_1 rwent_0 rwent_1 rwent_2
  rw [h.co] at hok ⊢
  cases h0 : (x.co.length : Int) == 0
  · rw [h0] at hok
    have hlen : 0 < x.co.length := by have := ne_of_beq_false h0; omega
    have hm : x.co.getD 0 zFa ∈ x.co := mem_getD hlen
    obtain ⟨i0, i1⟩ := pl_idx (fr_holds (h.fr _ hm))
    refine ⟨⟨hok, h.g0, h.g1, h.g2, h.g3, h.g4, h.md, h.la, rfl, h.ce, h.cl, fun f hf => h.fr f (List.mem_of_mem_drop hf)⟩, ?_, rfl⟩
    rw [h.g0, h.g1, h.g2, h.g3, h.g4, i0, i1]
    cases (x.co.getD 0 zFa).x0 == 7 <;> rfl
  · rw [h0] at hok
    exact ⟨⟨h.ok, h.g0, h.g1, h.g2, h.g3, h.g4, h.md, h.la, h.co, h.ce, h.cl, h.fr⟩, rfl, rfl⟩
theorem gat_has (r s n m c i : Int) : gat_4 r s n m c i = bif rhas r s n m c i then 0 else 12 := by
  unfold gat_4 rhas
  rw [← gholds_eq, show (2 : Int) ^ 20 = 1048576 from rfl, show (2 : Int) ^ 16 = 65536 from rfl, show (2 : Int) ^ 6 = 64 from rfl]
  by_cases h : i < 0
  · rw [decide_eq_true h, decide_eq_false (show ¬ 0 ≤ i by omega)]; rfl
  · rw [decide_eq_false h, decide_eq_true (show 0 ≤ i by omega)]
    cases gholds r s n m c (i / 1048576) (i / 65536 % 16) (i / 64 % 1024) (i % 64) <;> rfl
theorem ov_eq (L : List Fa) (mode q0 q1 q2 q3 : Int) (xs : List UInt8) : ∀ k, ovF L mode q0 q1 q2 q3 xs k = ov11 L mode q0 q1 q2 q3 xs k
  | 0 => rfl
  | k + 1 => by
    show fapply _ _ _ _ _ _ _ _ _ _ _ _ _ _ = fapply11 _ _ _ _ _ _ _ _ _ _ _ _ _ _
    rw [fapply_eq, ov_eq L mode q0 q1 q2 q3 xs k]
/-- What would be read. -/
theorem RpR.look (h : RpR D r s n m c mode x) (i : Int) : dLook_1 D i = (bif rhas r s n m c i then 0 else 12) ∧ (rhas r s n m c i = true → dLook_0 D i = ov11 x.la mode (i / 1048576) (i / 65536 % 16) (i / 64 % 1024) (i % 64) (getC x.cl i) x.la.length) ∧ (rhas r s n m c i = false → dLook_0 D i = List.replicate 72 0) := by
  have hg : gat_4 D.g0 D.g1 D.g2 D.g3 D.g4 i = bif rhas r s n m c i then 0 else 12 := by rw [h.g0, h.g1, h.g2, h.g3, h.g4]; exact gat_has r s n m c i
  refine ⟨?_, fun hr => ?_, fun hr => ?_⟩
  · unfold dLook_1
    rw [hg]
    cases rhas r s n m c i <;> rfl
  · rw [hr] at hg
    rw [(look_at hg).1, h.g0, h.g1, h.g2, h.g3, h.g4, h.md, h.la, h.ce, ov_eq]
    have hd : (decide (i < 0) || !gholds r s n m c (i / 2 ^ 20) (i / 2 ^ 16 % 16) (i / 2 ^ 6 % 1024) (i % 64)) = false := by
      have h4 : gat_4 r s n m c i = 0 := by rw [gat_has, hr]; rfl
      unfold gat_4 at h4
      cases hq : (decide (i < 0) || !gholds r s n m c (i / 2 ^ 20) (i / 2 ^ 16 % 16) (i / 2 ^ 6 % 1024) (i % 64))
      · rfl
      · rw [hq] at h4; exact absurd h4 (by decide)
    unfold gat_0 gat_1 gat_2 gat_3
    rw [hd]
    rfl
  · unfold dLook_0
    rw [hg, hr]
    rfl
/-- Bytes are put where the access goes. -/
theorem RpR.put (h : RpR D r s n m c mode x) (i : Int) {b : List UInt8} (hb : b.length = 72) : RpR { D with cells := upI D.cells i b } r s n m c mode { x with cl := putC x.cl i b } := by
  refine ⟨⟨fun k => ?_, h.ok.l1, h.ok.l2, h.ok.f1, h.ok.f2⟩, h.g0, h.g1, h.g2, h.g3, h.g4, h.md, h.la, h.co, fun j => ?_, putC_all hb h.cl, h.fr⟩
  · exact upI_len h.ok.cl i hb k
  · show upI D.cells i b j = getC (putC x.cl i b) j
    rw [putC_get]
    unfold upI
    by_cases hj : j = i
    · rw [if_pos hj, hj, beq_self_eq_true]; rfl
    · rw [if_neg hj, h.ce, show (i == j) = false from beq_false_of_ne fun e => hj e.symm]; rfl
end
theorem D0_rp (r s n m c mode : Int) : RpR (D0 r s n m c mode) r s n m c mode ⟨[], [], []⟩ := ⟨D0_ok r s n m c mode, rfl, rfl, rfl, rfl, rfl, rfl, rfl, rfl, fun _ => rfl, fun e he => by simp at he, fun f hf => by simp at hf⟩
end Go.Proofs.Ytckhkagkpldoiaa.E
