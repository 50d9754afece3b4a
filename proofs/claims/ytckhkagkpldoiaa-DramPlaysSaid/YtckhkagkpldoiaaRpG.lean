/- A step of both, plainly: they answer alike, and stay alike. -/
import Derived.Test.YtckhkagkpldoiaaRpF
namespace Go.Proofs.Ytckhkagkpldoiaa.E
open Go
set_option linter.unusedVariables false
theorem has_gat {r s n m c i : Int} (h : gat_4 r s n m c i = 0) : rhas r s n m c i = true := by
  rw [gat_has] at h
  cases hr : rhas r s n m c i
  · rw [hr] at h; exact absurd h (by decide)
  · rfl
section
variable {D : Dr} {r s n m c mode : Int} {x : Rs}
theorem RpR.hasw (h : RpR D r s n m c mode x) {i : Int} (hh : rhas r s n m c i = true) : rhas r s n m c (rwent_0 x.co i) = true := by
  unfold rwent_0
  cases h1 : (x.co.length : Int) == 0
  · have hm : x.co.getD 0 zFa ∈ x.co := mem_getD (by have := ne_of_beq_false h1; omega)
    cases (x.co.getD 0 zFa).x0 == 7
    · obtain ⟨i0, i1⟩ := pl_idx (fr_holds (h.fr _ hm))
      have := has_gat (gat_of i1).1
      rw [i0] at this
      exact this
    · exact hh
  · exact hh
theorem RpR.gat (h : RpR D r s n m c mode x) (i : Int) : gat_4 D.g0 D.g1 D.g2 D.g3 D.g4 i = bif rhas r s n m c i then 0 else 12 := by rw [h.g0, h.g1, h.g2, h.g3, h.g4]; exact gat_has r s n m c i
theorem RpR.write (h : RpR D r s n m c mode x) (o : Op5) (ho : OpIn o) : (bif !(rhas r s n m c o.index) then ((dWrite_2 D o.index) == 12) && (((dWrite_0 D o.index) == 0) && (!(dWrite_1 D o.index))) else ((dWrite_2 D o.index) == 0) && (((dWrite_0 D o.index) == (rwent_0 x.co o.index)) && ((dWrite_1 D o.index) == (rwent_1 x.co)))) = true ∧
    RpR (wrD D o.index o.raw) r s n m c mode ⟨bif !rhas r s n m c o.index then x.cl else bif !rwent_1 x.co then putC x.cl (rwent_0 x.co o.index) o.raw else x.cl, x.la, bif !rhas r s n m c o.index then x.co else rwent_2 x.co⟩ := by
  have hg := h.gat o.index
  obtain ⟨hw, e0, e1⟩ := h.went o.index
  unfold dWrite_2 dWrite_0 dWrite_1 wrD
  rw [hg, e0, e1]
  cases hr : rhas r s n m c o.index
  · exact ⟨rfl, h⟩
  · refine ⟨by simp, ?_⟩
    show RpR (bif !rwent_1 x.co then _ else _) r s n m c mode ⟨bif !rwent_1 x.co then _ else _, x.la, rwent_2 x.co⟩
    cases hd : rwent_1 x.co
    · exact hw.put (rwent_0 x.co o.index) ho.1
    · exact hw
theorem RpR.read (h : RpR D r s n m c mode x) (i : Int) : dRead_3 D i = (bif rhas r s n m c i then 0 else 12) ∧ dRead_1 D i = (bif rhas r s n m c i then rwent_0 x.co i else 0) ∧ dRead_2 D i = (bif rhas r s n m c i then rwent_1 x.co else false) ∧
    dRead_0 D i = (bif rhas r s n m c i then bif rwent_1 x.co then List.replicate 72 0 else ov11 x.la mode ((rwent_0 x.co i) / 1048576) ((rwent_0 x.co i) / 65536 % 16) ((rwent_0 x.co i) / 64 % 1024) ((rwent_0 x.co i) % 64) (getC x.cl (rwent_0 x.co i)) x.la.length else List.replicate 72 0) ∧
    RpR (rdD D i) r s n m c mode ⟨x.cl, x.la, bif !rhas r s n m c i then x.co else rwent_2 x.co⟩ := by
  have hg := h.gat i
  obtain ⟨hw, e0, e1⟩ := h.went i
  obtain ⟨l1, l2, l3⟩ := hw.look (rwent_0 x.co i)
  unfold dRead_3 dRead_1 dRead_2 dRead_0 rdD
  rw [hg, e0, e1]
  cases hr : rhas r s n m c i
  · exact ⟨rfl, rfl, rfl, rfl, h⟩
  · have hh := h.hasw hr
    rw [hh] at l1
    refine ⟨?_, rfl, rfl, ?_, hw⟩
    · show (bif rwent_1 x.co then (0 : Int) else dLook_1 (dwD D) (rwent_0 x.co i)) = 0
      rw [l1]
      cases rwent_1 x.co <;> rfl
    · show (bif rwent_1 x.co then _ else dLook_0 (dwD D) (rwent_0 x.co i)) = bif rwent_1 x.co then _ else _
      rw [l2 hh]
theorem RpR.step (h : RpR D r s n m c mode x) {o : Op5} (ho : OpIn o) : dstep_0 D r s n m c mode x o = true ∧ RpR (psD D o) r s n m c mode ⟨psC r s n m c mode x o, psL r s n m c mode x o, psO r s n m c mode x o⟩ := by
  unfold dstep_0 psD psC psL psO
  cases h1 : o.kind == 1
  · cases h2 : o.kind == 2
    · cases h3 : o.kind == 3
      · cases h4 : o.kind == 4
        · exact ⟨rfl, h⟩
        · exact ⟨rfl, h.injN ho.2.1 _⟩
      · obtain ⟨r3, r1, r2, r0, hR⟩ := h.read o.index
        refine ⟨?_, hR⟩
        simp only [cond_true, cond_false]
        rw [r3, r1, r2, r0]
        cases hr : rhas r s n m c o.index
        · simp
        · cases hd : rwent_1 x.co
          · simp
          · simp
    · exact h.write o ho
  · exact ⟨beq_iff_eq.2 (h.inj ho.2.1).2, (h.inj ho.2.1).1⟩
end
theorem psC_len (r s n m c mode : Int) (x : Rs) (o : Op5) : (psC r s n m c mode x o).length ≤ x.cl.length + 300 := by
  unfold psC
  have hM := manyN_le o
  have h4 := rinN_len r s n m c mode x o.fault (manyN o)
  have h1 := rinj_len r s n m c mode x.cl o.fault
  have h2 := putC_len x.cl (rwent_0 x.co o.index) o.raw
  cases o.kind == 1
  · cases o.kind == 2
    · cases o.kind == 3
      · cases o.kind == 4
        · show x.cl.length ≤ _; omega
        · show (rinN r s n m c mode x o.fault (manyN o)).cl.length ≤ _; omega
      · show x.cl.length ≤ _; omega
    · show (bif !rhas r s n m c o.index then x.cl else bif !rwent_1 x.co then putC x.cl (rwent_0 x.co o.index) o.raw else x.cl).length ≤ _
      cases rhas r s n m c o.index
      · show x.cl.length ≤ _; omega
      · cases rwent_1 x.co
        · show (putC x.cl (rwent_0 x.co o.index) o.raw).length ≤ _; omega
        · show x.cl.length ≤ _; omega
  · show (rinj_1 r s n m c mode x.cl o.fault).length ≤ _; omega
/-- Both, behind k steps. -/
def plD (D : Dr) (ops : List Op5) : Nat → Dr
  | 0 => D
  | k + 1 => psD (plD D ops k) (ops.getD k zOp)
def plX (r s n m c mode : Int) (x : Rs) (ops : List Op5) : Nat → Rs
  | 0 => x
  | k + 1 => ⟨psC r s n m c mode (plX r s n m c mode x ops k) (ops.getD k zOp), psL r s n m c mode (plX r s n m c mode x ops k) (ops.getD k zOp), psO r s n m c mode (plX r s n m c mode x ops k) (ops.getD k zOp)⟩
theorem RpR.play {D : Dr} {r s n m c mode : Int} {x : Rs} (h : RpR D r s n m c mode x) {ops : List Op5} (ho : opsIn ops) : ∀ k, RpR (plD D ops k) r s n m c mode (plX r s n m c mode x ops k)
  | 0 => h
  | k + 1 => ((h.play ho k).step (opIn_at ho k)).2
theorem plX_len (r s n m c mode : Int) (x : Rs) (ops : List Op5) : ∀ k, (plX r s n m c mode x ops k).cl.length ≤ x.cl.length + 300 * k
  | 0 => Nat.le_refl _
  | k + 1 => by
    have h1 := plX_len r s n m c mode x ops k
    have h2 := psC_len r s n m c mode (plX r s n m c mode x ops k) (ops.getD k zOp)
    exact Nat.le_trans h2 (by omega)
end Go.Proofs.Ytckhkagkpldoiaa.E
