/- What is left of a division is told by its degree alone; divisions by z less x. No program in sight. -/
import Derived.Test.YtdgflbbffimpkaaPolyL2
namespace Go.Proofs.Ytdgflbbffimpkaa

theorem modL_unique {w p q low : List UInt8} {t : UInt8} (h0 : 0 < tlL q) (ht : gm (co q (tlL q - 1)) t = 1) (hw : ∀ j, co w j = conv (co p) (co q) j ^^^ co low j) (hl : ∀ j, tlL q - 1 ≤ j → co low j = 0) (j : Nat) : co (modL w q t) j = co low j := by
  obtain ⟨⟨s, hf, hs⟩, hlt⟩ := modL_spec (p := w) (q := q) (t := t) h0 ht
  have hc : ∀ j, conv (fun i => co p i ^^^ s i) (co q) j = co low j ^^^ co (modL w q t) j := fun j => by
    rw [conv_xor]
    have h1 := (hw j).symm.trans (hs j)
    have h2 : conv (co p) (co q) j = (co (modL w q t) j ^^^ conv s (co q) j) ^^^ co low j := by
      rw [← h1, UInt8.xor_assoc, UInt8.xor_self, UInt8.xor_zero]
    rw [h2]
    have : ∀ a b c : UInt8, ((a ^^^ b) ^^^ c) ^^^ b = c ^^^ a := fun a b c => by
      rw [UInt8.xor_assoc, UInt8.xor_comm c b, ← UInt8.xor_assoc, UInt8.xor_assoc a b b, UInt8.xor_self, UInt8.xor_zero, UInt8.xor_comm]
    exact this _ _ _
  have hz := conv_low (s := fun i => co p i ^^^ s i) (q := q) (N := max p.length w.length) (fun i hi => by
    show co p i ^^^ s i = 0
    rw [co_ge (by omega), hf i (by omega)]; rfl) h0 (fun j hj => by
    rw [hc j, hl j hj, tlL_zero (modL w q t) (by omega)]; rfl)
  have h3 : conv (fun i => co p i ^^^ s i) (co q) j = 0 := xs_zero fun i _ => by
    have := hz i
    show gm (co p i ^^^ s i) _ = 0
    rw [this, zero_gm]
  rw [hc j] at h3
  exact (UInt8.xor_eq_zero_iff.1 h3).symm
/-- The value of what a division takes away. -/
theorem modL_eval {p q : List UInt8} {t : UInt8} (h0 : 0 < tlL q) (ht : gm (co q (tlL q - 1)) t = 1) {x : UInt8} (hx : evalL q x = 0) : evalL (modL p q t) x = evalL p x := by
  obtain ⟨⟨s, hf, hs⟩, hlt⟩ := modL_spec (p := p) (q := q) (t := t) h0 ht
  obtain ⟨N, hN⟩ : ∃ N, p.length + q.length + (modL p q t).length = N := ⟨_, rfl⟩
  rw [evalL_eq p x (n := N) (fun i hi => co_ge (by omega)), evalL_eq (modL p q t) x (n := N) (fun i hi => co_ge (by omega)), ev_congr x (fun i _ => hs i), ev_xor,
    ev_conv s (co q) p.length q.length x hf (fun i hi => co_ge hi) N (by omega), show ev (co q) q.length x = evalL q x from rfl, hx, gm_zero, UInt8.xor_zero]
theorem eval_short {m : List UInt8} (h : tlL m ≤ 1) (x : UInt8) : evalL m x = co m 0 := by
  rw [evalL_eq m x (n := 1) (fun i hi => tlL_zero m (by omega))]
  show 0 ^^^ gm (co m 0) 1 = co m 0
  rw [gm_one, UInt8.zero_xor]
end Go.Proofs.Ytdgflbbffimpkaa
