/- rs: what the laws' walks share. -/
import Derived.Test.YtdgflbbffimpkaaRsI
import Derived.Test.YtdgflbbffimpkaaRsK
namespace Go.Proofs.Ytdgflbbffimpkaa
open Go.RowKit Go.Shelf
attribute [local go_sem] Oper.semAt_some
set_option linter.unusedVariables false
set_option linter.unusedSimpArgs false

section
variable {F : Fence} {n : Nat} {P : Program} {ops : Array Oper} {Q : Exit → Act → World → Prop} {a : Act} {W : World} {rest : List Oper} {o : Oper}
/-- Is it this operation? (Ahead of a rule, so that it fails at once where it doesn't fit.) -/
theorem onlyO (p : Op) (ho : o.op = p) (h : wpListIn F n P ops Q (o :: rest) a W) : wpListIn F n P ops Q (o :: rest) a W := h
theorem onlyD (d : Tmp) (ho : o.dst = some d) (h : wpListIn F n P ops Q (o :: rest) a W) : wpListIn F n P ops Q (o :: rest) a W := h
end
section
variable {P : Program} {w : World} {o : Oper} {ρ : Operand → Value}
theorem run_lenO {T : TypeId} {x : Operand} (ho : o.op = .call { callee := .builtin .len, args := #[x], argTypes := #[T] }) {A : Option Addr} {n c : Nat} (hx : ρ x = .slice A n c) (h : P.underlying T = some (.slice (P.elem T))) : (execOp ρ o).run P w = .ok (.value (.int .i64 n)) w := by
  have hr := fun ty => run_len_slice (P := P) (w := w) T ty A n c h
  simp [execOp, ho, resolve, invoke, builtin, hx, hr, goInt, Result.andThen]
theorem eqT {X : Sem Value} {p q : List UInt8} (h : X.run P w = .ok (.bool (decide (p = q))) w) (e : p = q) : X.run P w = .ok (.bool true) w := by rw [h, decide_eq_true e]
theorem neF {X : Sem Value} {p q : List UInt8} (h : X.run P w = .ok (.bool (!decide (p = q))) w) (e : p = q) : X.run P w = .ok (.bool false) w := by rw [h, decide_eq_true e]; rfl
end
theorem rmul48 (w : World) : Calls Try.prog 23 #[.int .u8 4, .int .u8 8] w fun e w' => e = .returned (.int .u8 32) ∧ w = w' := by
  have h := rmul_any 4 8 w
  rw [show gm 4 8 = 32 by decide +kernel] at h
  exact h
theorem rmul232 (w : World) : Calls Try.prog 23 #[.int .u8 2, .int .u8 32] w fun e w' => e = .returned (.int .u8 64) ∧ w = w' := by
  have h := rmul_any 2 32 w
  rw [show gm 2 32 = 64 by decide +kernel] at h
  exact h
theorem gen_c0 (rest : List Value) : (rowV genL rest)[0]? = some (.int .u8 64) := by rw [genL_eq]; rfl
theorem gen_c4 (rest : List Value) : (rowV genL rest)[4]? = some (.int .u8 1) := by rw [genL_eq]; rfl


theorem eqV_self (a b c : Int) (x y : Operand) (w : World) : (do eqGuard .eql 30 x y (.agg #[.int .i64 a, .int .i64 b, .int .u8 c]) (.agg #[.int .i64 a, .int .i64 b, .int .u8 c]); Go.binOp .eql 30 (.agg #[.int .i64 a, .int .i64 b, .int .u8 c]) (.agg #[.int .i64 a, .int .i64 b, .int .u8 c]) : Sem Value).run Try.prog w = .ok (.bool true) w := by
  rw [eql_Verdict]; simp
theorem neqV_self (a b c : Int) (x y : Operand) (w : World) : (do eqGuard .neq 30 x y (.agg #[.int .i64 a, .int .i64 b, .int .u8 c]) (.agg #[.int .i64 a, .int .i64 b, .int .u8 c]); Go.binOp .neq 30 (.agg #[.int .i64 a, .int .i64 b, .int .u8 c]) (.agg #[.int .i64 a, .int .i64 b, .int .u8 c]) : Sem Value).run Try.prog w = .ok (.bool false) w := by
  rw [neq_Verdict]; simp
theorem refValuesS_any (u v : List UInt8) (h : (u ++ v).length = 39) (w : World) : Calls Try.prog 14 #[.agg (rawV (u ++ v))] w fun e w' => e = .returned (.agg (rawV (synL u v))) ∧ Below w.heap.size w w' := by
  rw [← valsL_syn]
  exact refValues_any (u ++ v) h w
/-- A list whose first k places have had another one's added. -/
def xorTo (n : Nat) (p q : List UInt8) (k : Nat) : List UInt8 := ofF n fun i => co p i ^^^ (if i < k then co q i else 0)
theorem xorTo_len (n : Nat) (p q : List UInt8) (k : Nat) : (xorTo n p q k).length = n := ofF_len _ _
theorem ofF_self {n : Nat} {p : List UInt8} (h : p.length = n) : ofF n (co p) = p := by rw [← h]; exact ofF_co p
theorem xorTo_zero {n : Nat} {p : List UInt8} (q : List UInt8) (h : p.length = n) : xorTo n p q 0 = p := by
  unfold xorTo
  rw [ofF_congr (g := co p) fun i _ => by rw [if_neg (by omega), UInt8.xor_zero], ofF_self h]
theorem co_xorTo {n : Nat} {p q : List UInt8} {k i : Nat} (hi : i < n) : co (xorTo n p q k) i = co p i ^^^ (if i < k then co q i else 0) := by unfold xorTo; rw [co_ofF, if_pos hi]
theorem xorTo_set {n : Nat} {p q : List UInt8} {k : Nat} (hk : k < n) : (xorTo n p q k).set k ((xorTo n p q k).getD k 0 ^^^ q.getD k 0) = xorTo n p q (k + 1) := by
  have e : (xorTo n p q k).getD k 0 = co p k := by
    show co (xorTo n p q k) k = _
    rw [co_xorTo hk, if_neg (Nat.lt_irrefl _), UInt8.xor_zero]
  rw [e]
  exact ofF_succ_set _ _ _ _ _ fun i _ => by
    by_cases h : i = k
    · subst h; rw [if_pos (by omega), if_pos rfl]; rfl
    · rw [if_neg h]
      by_cases h2 : i < k
      · rw [if_pos (by omega), if_pos h2]
      · rw [if_neg (by omega), if_neg h2]
theorem xor_app {n m : Nat} {p q r s : List UInt8} (hp : p.length = n) (hq : q.length = n) {i : Nat} (hi : i < n + m) : co (xorTo n p q n ++ xorTo m r s m) i = co (p ++ r) i ^^^ co (q ++ s) i := by
  by_cases h : i < n
  · rw [co_left (by rw [xorTo_len]; exact h), co_left (by omega), co_left (by omega)]
    show co (xorTo n p q n) i = co p i ^^^ co q i
    rw [co_xorTo h, if_pos h]
  · obtain ⟨t, rfl⟩ : ∃ t, i = n + t := ⟨i - n, by omega⟩
    rw [co_right (xorTo_len n p q n), co_right hp, co_right hq]
    show co (xorTo m r s m) t = co r t ^^^ co s t
    rw [co_xorTo (by omega), if_pos (by omega)]
theorem syn_app (d v w u : List UInt8) (hd : d.length = 32) (hv : v.length = 3) (hw : w.length = 36) (hu : u.length = 3) : synL (xorTo 36 (wordL d v) w 36) (xorTo 3 v u 3) = synL w u := by
  refine list_ext (by rw [synL_len, synL_len]) fun j hj => ?_
  rw [synL_len] at hj
  rw [co_synL _ _ hj, co_synL _ _ hj, synF_Sy (by rw [List.length_append, xorTo_len, xorTo_len]), synF_Sy (by rw [List.length_append, hw, hu]), Sy_congr fun i hi => xor_app (wordL_len d v hd) hw (by omega), Sy_xor, word_isC d v hd hv j hj, UInt8.zero_xor]
end Go.Proofs.Ytdgflbbffimpkaa
