/- Chips, plainly: faults that are to come. -/
import Derived.Test.YtckhkagkpldoiaaDrP
namespace Go.Proofs.Ytckhkagkpldoiaa.E
open Go
set_option linter.unusedVariables false
def thD (D : Dr) (i : Int) (b : Bool) : Dr := bif b then rdD D i else wrD D i (List.replicate 72 0)
theorem thD_ok {D : Dr} (h : DrOk D) (i : Int) (b : Bool) : DrOk (thD D i b) := by
  unfold thD
  cases b
  · exact wrD_ok h i List.length_replicate
  · exact rdD_ok h i
def siD (D : Dr) (fs : List Fa) : Nat → Dr
  | 0 => D
  | k + 1 => bif decide (6 ≤ (fs.getD k zFa).x0) then injD (siD D fs k) (fs.getD k zFa) else siD D fs k
def siW (D : Dr) (fs : List Fa) : Nat → List Fa
  | 0 => []
  | k + 1 => bif decide (6 ≤ (fs.getD k zFa).x0) && ((dInject_0 (siD D fs k) (fs.getD k zFa)) == 0) then siW D fs k ++ [fs.getD k zFa] else siW D fs k
def thS (D : Dr) (i : Int) (rs : List Bool) : Nat → Dr
  | 0 => D
  | k + 1 => thD (thS D i rs k) i (rs.getD k false)
theorem siD_ok {D : Dr} (h : DrOk D) {fs : List Fa} (hf : ∀ f ∈ fs, FaOk f) : ∀ k, DrOk (siD D fs k)
  | 0 => h
  | k + 1 => by
    unfold siD
    have hz : FaOk (fs.getD k zFa) := by
      rw [List.getD_eq_getElem?_getD]
      cases hx : fs[k]? with
      | none => exact ⟨by decide, by decide⟩
      | some o => exact hf o (List.mem_of_getElem? hx)
    cases decide (6 ≤ (fs.getD k zFa).x0)
    · exact siD_ok h hf k
    · exact injD_ok (siD_ok h hf k) hz
theorem siW_len (D : Dr) (fs : List Fa) : ∀ k, (siW D fs k).length ≤ k
  | 0 => Nat.le_refl _
  | k + 1 => by
    unfold siW
    have := siW_len D fs k
    cases decide (6 ≤ (fs.getD k zFa).x0) && ((dInject_0 (siD D fs k) (fs.getD k zFa)) == 0)
    · simp only [cond_false]; omega
    · simp only [cond_true, List.length_append, List.length_singleton]; omega
theorem thS_ok {D : Dr} (h : DrOk D) (i : Int) (rs : List Bool) : ∀ k, DrOk (thS D i rs k)
  | 0 => h
  | k + 1 => thD_ok (thS_ok h i rs k) i _
theorem inj_come {D : Dr} {f : Fa} (h6 : 6 ≤ f.x0) : injD D f = (bif dInject_0 D f == 0 then { D with coming := D.coming ++ [f] } else D) ∧ ((dInject_0 D f == 0) = true → frF D f = true) := by
  have h1 : (f.x0 == 1) = false := by simp; omega
  have hl : flasts f.x0 f.x1 f.x2 f.x3 f.x4 f.x5 f.x6 f.x7 = false := by
    unfold flasts
    rw [show decide (f.x0 ≤ 5) = false from decide_eq_false (by omega), Bool.and_false]
  unfold injD dInject_0 dadd_0 dadd_1 frF
  rw [h1, hl]
  cases fright f.x0 f.x1 f.x2 f.x3 f.x4 f.x5 f.x6 f.x7 D.g0 D.g1 D.g2 D.g3 D.g4 D.mode
  · exact ⟨rfl, fun h => by cases h⟩
  · cases decide (256 ≤ (D.coming.length : Int))
    · exact ⟨rfl, fun _ => rfl⟩
    · exact ⟨rfl, fun h => by cases h⟩
/-- The same chips, but for what lasts and what is held; w is to come. -/
structure SI (D0 D : Dr) (w : List Fa) : Prop where
  g0 : D.g0 = D0.g0
  g1 : D.g1 = D0.g1
  g2 : D.g2 = D0.g2
  g3 : D.g3 = D0.g3
  g4 : D.g4 = D0.g4
  m : D.mode = D0.mode
  c : D.coming = w
theorem st_si {D : Dr} (h0 : D.coming = []) (fs : List Fa) : ∀ k, SI D (siD D fs k) (siW D fs k) ∧ ∀ f ∈ siW D fs k, frF D f = true ∧ 6 ≤ f.x0
  | 0 => ⟨⟨rfl, rfl, rfl, rfl, rfl, rfl, h0⟩, fun f h => by simp [siW] at h⟩
  | k + 1 => by
    obtain ⟨h, hf⟩ := st_si h0 fs k
    unfold siD siW
    cases hd : decide (6 ≤ (fs.getD k zFa).x0)
    · exact ⟨h, hf⟩
    · have h6 := of_decide_eq_true hd
      obtain ⟨e1, e2⟩ := inj_come (D := siD D fs k) h6
      simp only [cond_true, Bool.true_and]
      rw [e1]
      cases hi : dInject_0 (siD D fs k) (fs.getD k zFa) == 0
      · exact ⟨h, hf⟩
      · refine ⟨⟨h.g0, h.g1, h.g2, h.g3, h.g4, h.m, by simp only [cond_true]; rw [h.c]⟩, fun f hm => ?_⟩
        simp only [cond_true, List.mem_append, List.mem_singleton] at hm
        rcases hm with hm | rfl
        · exact hf f hm
        · refine ⟨?_, h6⟩
          have := e2 hi
          unfold frF at this ⊢
          rwa [h.g0, h.g1, h.g2, h.g3, h.g4, h.m] at this
theorem dw_come (D : Dr) : dwD D = { D with coming := D.coming.drop 1 } := by
  unfold dwD
  cases hb : ((D.coming.length : Int) == 0)
  · rfl
  · have : D.coming = [] := List.length_eq_zero_iff.1 (by have := eq_of_beq hb; omega)
    simp only [cond_true]
    cases D
    simp_all
theorem SI.tc {D0 D : Dr} {w : List Fa} (h : SI D0 D w) {i : Int} (hi : gat_4 D0.g0 D0.g1 D0.g2 D0.g3 D0.g4 i = 0) (b : Bool) : SI D0 (thD D i b) (w.drop 1) := by
  have hg : gat_4 D.g0 D.g1 D.g2 D.g3 D.g4 i = 0 := by rw [h.g0, h.g1, h.g2, h.g3, h.g4]; exact hi
  have hd : SI D0 (dwD D) (w.drop 1) := by rw [dw_come]; exact ⟨h.g0, h.g1, h.g2, h.g3, h.g4, h.m, by rw [h.c]⟩
  unfold thD rdD wrD
  rw [hg]
  cases b
  · cases !dwent_1 D
    · exact hd
    · exact ⟨hd.g0, hd.g1, hd.g2, hd.g3, hd.g4, hd.m, hd.c⟩
  · exact hd
theorem SI.tcs {D0 D : Dr} {w : List Fa} (h : SI D0 D w) {i : Int} (hi : gat_4 D0.g0 D0.g1 D0.g2 D0.g3 D0.g4 i = 0) (rs : List Bool) : ∀ j, SI D0 (thS D i rs j) (w.drop j)
  | 0 => h
  | j + 1 => by
    have := (SI.tcs h hi rs j).tc hi (rs.getD j false)
    rw [List.drop_drop] at this
    exact this
theorem look_err {D : Dr} {i : Int} (h : (dLook_1 D i != 0) = false) : gat_4 D.g0 D.g1 D.g2 D.g3 D.g4 i = 0 := by
  unfold dLook_1 at h
  cases hb : gat_4 D.g0 D.g1 D.g2 D.g3 D.g4 i != 0
  · simpa using hb
  · rw [hb, cond_true] at h
    rw [h] at hb
    cases hb
theorem look_12 {D : Dr} {i : Int} (h : (dLook_1 D i != 0) = true) : (dLook_1 D i == 12) = true := by
  unfold dLook_1 gat_4 at h ⊢
  revert h
  generalize (decide (i < 0) || (!(gholds D.g0 D.g1 D.g2 D.g3 D.g4 (i / 2 ^ 20) (i / 2 ^ 16 % 16) (i / 2 ^ 6 % 1024) (i % 64)))) = B
  cases B <;> decide
theorem right_at {D : Dr} {f : Fa} (h : frF D f = true) : gindex_1 D.g0 D.g1 D.g2 D.g3 D.g4 f.x1 f.x2 f.x3 f.x4 = 0 := by
  have hh : gholds D.g0 D.g1 D.g2 D.g3 D.g4 f.x1 f.x2 f.x3 f.x4 = true := by
    unfold frF fright at h
    revert h
    cases f.x0 == 2 <;> intro h <;> simp only [cond_true, cond_false, Bool.and_eq_true] at h <;> exact h.1.1.1.2
  unfold gindex_1
  rw [hh]
  rfl
/-- Where the next access goes. -/
theorem went_at {D0 D : Dr} {w : List Fa} {j : Nat} (h : SI D0 D (w.drop j)) (hr : ∀ f ∈ w, frF D0 f = true) (i : Int) (hi : gat_4 D0.g0 D0.g1 D0.g2 D0.g3 D0.g4 i = 0) :
    (decide ((j : Int) < ((w.length : Nat) : Int)) = false → dwent_1 D = false ∧ dwent_0 D i = i) ∧
    (decide ((j : Int) < ((w.length : Nat) : Int)) = true → ((w.getD j zFa).x0 == 7) = true → dwent_1 D = true ∧ dwent_0 D i = i) ∧
    (decide ((j : Int) < ((w.length : Nat) : Int)) = true → ((w.getD j zFa).x0 == 7) = false → dwent_1 D = false ∧ dwent_0 D i = gindex_0 D0.g0 D0.g1 D0.g2 D0.g3 D0.g4 (w.getD j zFa).x1 (w.getD j zFa).x2 (w.getD j zFa).x3 (w.getD j zFa).x4 ∧ gat_4 D0.g0 D0.g1 D0.g2 D0.g3 D0.g4 (gindex_0 D0.g0 D0.g1 D0.g2 D0.g3 D0.g4 (w.getD j zFa).x1 (w.getD j zFa).x2 (w.getD j zFa).x3 (w.getD j zFa).x4) = 0) := by
  have hlen : D.coming.length = w.length - j := by rw [h.c, List.length_drop]
  have hget : D.coming.getD 0 zFa = w.getD j zFa := by rw [h.c, List.getD_eq_getElem?_getD, List.getD_eq_getElem?_getD, List.getElem?_drop, Nat.add_zero]
  refine ⟨fun hj => ?_, fun hj h7 => ?_, fun hj h7 => ?_⟩
  · have := of_decide_eq_false hj
    have hc : D.coming = [] := List.length_eq_zero_iff.1 (by omega)
    obtain ⟨_, h2, h3⟩ := went_none hc
    exact ⟨h2, h3 i⟩
  · have := of_decide_eq_true hj
    have hn : ((D.coming.length : Int) == 0) = false := beq_eq_false_iff_ne.2 (by omega)
    unfold dwent_1 dwent_0
    rw [hn, hget, h7]
    exact ⟨rfl, rfl⟩
  · have hlt := of_decide_eq_true hj
    have hn : ((D.coming.length : Int) == 0) = false := beq_eq_false_iff_ne.2 (by omega)
    have hm : w.getD j zFa ∈ w := by
      rw [List.getD_eq_getElem?_getD, List.getElem?_eq_getElem (by omega)]
      exact List.getElem_mem _
    have hz := right_at (hr _ hm)
    unfold dwent_1 dwent_0
    rw [hn, hget, h7, h.g0, h.g1, h.g2, h.g3, h.g4, hz]
    exact ⟨rfl, rfl, (gat_of hz).1⟩
end Go.Proofs.Ytckhkagkpldoiaa.E
